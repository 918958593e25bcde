/- ParseDiagram: the reference. -/
import Derived.Test.YtliophgfgmjhiaaGreatDoorZ24Zy6
import Derived.Test.YtliophgfgmjhiaaGreatDoorZ25Zy5
import Derived.Test.YtliophgfgmjhiaaGreatDoorZ26Zy4
import Derived.Test.YtliophgfgmjhiaaGreatDoorZ27Zy1
import Derived.Test.YtliophgfgmjhiaaGreatDoorZ04Brk
import Derived.BigRegion
import Derived.BigQuiet
import Derived.Deep.DeepCutAuto
namespace Go.Proofs.YtliophgfgmjhiaaGreatDoor
set_option linter.unusedSimpArgs false
set_option linter.unusedVariables false
set_option linter.unnecessarySimpa false
set_option maxRecDepth 200000
open Go.ChangeShapes Go.WideShapes Go.ChangeAt Go.RowKit

theorem list_next {α : Type} {P : ByteArray → α → Prop} {ws : List ByteArray} {d : α} {xs : List α} {x : α} (h : ∀ j, j < xs.length → P (ws.getD j ⟨#[]⟩) (xs.getD j d)) (hx : P (ws.getD xs.length ⟨#[]⟩) x) : ∀ j, j < (xs ++ [x]).length → P (ws.getD j ⟨#[]⟩) ((xs ++ [x]).getD j d) := by
  intro j hj
  rw [List.length_append, List.length_singleton] at hj
  by_cases e : j = xs.length
  · subst e
    simpa [List.getD] using hx
  · have hl : j < xs.length := by omega
    have := h j hl
    simpa [List.getD, List.getElem?_append, hl] using this
/-- What is read out of the words of a text reads the text. -/
theorem reads_of {s : ByteArray} {d : Dia} (h : ReadD (wordsOf 59 s) d) : ReadsZ s d := fun _ hg ht => dia_read hg ht h
theorem five_words {s : ByteArray} (h : (wordsOf 59 s).length ≠ 5) (d : Dia) (hg : GoodS d) (ht : diaT d = s) : False := by
  subst ht
  rw [dia_words hg] at h
  exact h rfl
theorem rnum_read (t : ByteArray) : RNum t (readG t) := fun k hk e => by rw [e]; exact read_num hk
theorem flat_snoc {α : Type} (f : α → List Value) (xs : List α) (x : α) : (xs ++ [x]).flatMap f = xs.flatMap f ++ f x := by simp
/-- A diagram in memory. -/
def DiaIn (w : World) (B : Nat) (d : Dia) (v0 v1 : Value) : Prop := OwnE w B 36 v0 E2.cs 2 d.ns ∧ OwnE w B 40 v1 EW.cs 3 d.ws ∧ Apart v0 v1
theorem DiaIn.set {w : World} {B : Nat} {d : Dia} {v0 v1 : Value} (h : DiaIn w B d v0 v1) {a : Addr} (ha : a.block < B) (u : Value) : DiaIn (w.setCell a u) B d v0 v1 := ⟨h.1.set ha u, h.2.1.set ha u, h.2.2⟩
theorem DiaIn.le {w : World} {B B' : Nat} {d : Dia} {v0 v1 : Value} (h : DiaIn w B d v0 v1) (hb : B' ≤ B) : DiaIn w B' d v0 v1 := ⟨h.1.le hb, h.2.1.le hb, h.2.2⟩
theorem DiaIn.below {w w' : World} {B : Nat} {d : Dia} {v0 v1 : Value} (h : DiaIn w B d v0 v1) (hb : Below w.heap.size w w') : DiaIn w' B d v0 v1 := ⟨h.1.below hb rfl, h.2.1.below hb rfl, h.2.2⟩
def ParseAns (s : ByteArray) (w : World) (e : Ending) (w' : World) : Prop := ∃ (d : Dia) (v0 v1 : Value) (q : Bool), e = .returned (.tuple #[.agg #[.int .i64 d.n, v0, v1, .int .i64 d.turn, .int .i64 d.root], .bool q]) ∧ DiaIn w' w.heap.size d v0 v1 ∧ Parsed s (if q = true then d else Dia.zero) q ∧ Below w.heap.size w w'
theorem ParseAns.of {s : ByteArray} {w w' : World} {e : Ending} (h : ∃ (d : Dia) (v0 v1 : Value) (q : Bool), e = .returned (.tuple #[.agg #[.int .i64 d.n, v0, v1, .int .i64 d.turn, .int .i64 d.root], .bool q]) ∧ DiaIn w' w.heap.size d v0 v1 ∧ Parsed s (if q = true then d else Dia.zero) q ∧ Below w.heap.size w w') : ParseAns s w e w' := h
set_option maxHeartbeats 16000000 in
theorem spec_l16Parse_any (s : ByteArray) (w : World) (hs : s.size ≤ 1048576) :
    Calls Tryz.prog 9 #[.string s] w fun e w' => ParseAns s w e w' := by
  go_enter Tryz.func9, Tryz.ntmps9
  go_wp2_with fail
  have R0 := Lib.hid (BoxD.new w 0 (.slice none 0 0) (.slice none 0 0) 0 0)
  have B0 := Lib.hid (show Below w.heap.size w (w.alloc (.cells #[.int .i64 0, .slice none 0 0, .slice none 0 0, .int .i64 0, .int .i64 0] 25)) from (by repeat (first | exact Below.refl _ _ | assumption | refine Below.drew ?_ | refine below_drewN ?_ _ | refine Below.alloc ?_ (by first | omega | (simp <;> omega)) _ | refine Below.setCell ?_ (by first | omega | (simp <;> omega)) _ | refine Below.trans ?_ (Below.mono (by assumption) (by first | omega | (simp <;> omega))))))
  refine (spec_l1Split_any s 59 _ hs).mono ?_; rintro e w2 ⟨v, ps, rfl, ho, hps, hb2⟩
  obtain rfl := words_of hps
  clear hps
  obtain ⟨g, cap, rfl, hg0, hg1, hC⟩ := split_cells ho
  have HC : Hid (Wd w2 g (wordsOf 59 s)) := hC
  have hwz : ∀ i, ((wordsOf 59 s).getD i ⟨#[]⟩).size ≤ 1048576 := fun i => by
    by_cases h : i < (wordsOf 59 s).length
    · have h2 : (wordsOf 59 s).getD i ⟨#[]⟩ ∈ wordsOf 59 s := by simp [List.getD, h]
      exact Nat.le_trans (wordsOf_size h2) (by omega)
    · rw [show (wordsOf 59 s).getD i ⟨#[]⟩ = ⟨#[]⟩ from by simp [List.getD, h]]; decide
  have HWZ := Lib.hid hwz
  have R2 := Lib.hid (R0.out.bel hb2)
  have B2 := Lib.hid (below_step B0.out hb2)
  have z2 : w.heap.size + 1 ≤ w2.heap.size := by have := hb2.size; simp at this; omega
  simp at hg0
  clear ho hb2 hC hwz R0 B0
  by_cases h5 : (wordsOf 59 s).length = 5
  rotate_left
  · have i5 : (((wordsOf 59 s).length : Int) != 5) = true := by simp; omega
    have HP := Lib.hid (parsed_none (five_words h5))
    have r0 := R2.out.c0; have r1 := R2.out.c1; have r2 := R2.out.c2; have r3 := R2.out.c3; have r4 := R2.out.c4
    have l0 := R2.out.f0; have l1 := R2.out.f1; have l2 := R2.out.f2; have l3 := R2.out.f3; have l4 := R2.out.f4
    clear h5
    go_wp2_with fail
    exact bodyPost_ret (v := .tuple #[.agg #[.int .i64 0, .slice none 0 0, .slice none 0 0, .int .i64 0, .int .i64 0], .bool false]) (by simp [results, Tryz.results9, go_sem, r0, r1, r2, r3, r4]; done) rfl (.of ⟨Dia.zero, .slice none 0 0, .slice none 0 0, false, rfl, ⟨OwnE.nil _ _ _, OwnE.nil _ _ _, (fun g h => by cases h)⟩, HP.out, Below.setCell (Below.setCell (Below.setCell (Below.setCell (Below.setCell B2.out (Nat.le_refl _) _) (Nat.le_refl _) _) (Nat.le_refl _) _) (Nat.le_refl _) _) (Nat.le_refl _) _⟩)
  have i5 : (((wordsOf 59 s).length : Int) != 5) = false := by simp; omega
  obtain ⟨ps, hp⟩ : ∃ ps, ps = wordsOf 59 s := ⟨_, rfl⟩
  rw [← hp] at HC HWZ h5 i5 ⊢
  have HPS := Lib.hid hp
  clear hp
  have q0 := HC.out 0 (by omega); have q1 := HC.out 1 (by omega); have q2 := HC.out 2 (by omega); have q3 := HC.out 3 (by omega); have q4 := HC.out 4 (by omega)
  have j0 : (0 : Int) < (ps.length : Int) := by omega
  have j1 : (1 : Int) < (ps.length : Int) := by omega
  have j2 : (2 : Int) < (ps.length : Int) := by omega
  have j3 : (3 : Int) < (ps.length : Int) := by omega
  have j4 : (4 : Int) < (ps.length : Int) := by omega
  have Z0 := Lib.hid (HWZ.out 0); have Z1 := Lib.hid (HWZ.out 1); have Z2 := Lib.hid (HWZ.out 2); have Z3 := Lib.hid (HWZ.out 3); have Z4 := Lib.hid (HWZ.out 4)
  have M0 := Lib.hid (rnum_read (ps.getD 0 ⟨#[]⟩)); have M1 := Lib.hid (rnum_read (ps.getD 1 ⟨#[]⟩))
  have HRD := Lib.hid (fun (d : Dia) a b c e f => (show ReadD ps d from ⟨a, b, c, e, f⟩))
  obtain ⟨p0, hp0⟩ : ∃ p, p = ps.getD 0 ⟨#[]⟩ := ⟨_, rfl⟩
  obtain ⟨p1, hp1⟩ : ∃ p, p = ps.getD 1 ⟨#[]⟩ := ⟨_, rfl⟩
  obtain ⟨p2, hp2⟩ : ∃ p, p = ps.getD 2 ⟨#[]⟩ := ⟨_, rfl⟩
  obtain ⟨p3, hp3⟩ : ∃ p, p = ps.getD 3 ⟨#[]⟩ := ⟨_, rfl⟩
  obtain ⟨p4, hp4⟩ : ∃ p, p = ps.getD 4 ⟨#[]⟩ := ⟨_, rfl⟩
  rw [← hp0] at q0 Z0 M0 HRD; rw [← hp1] at q1 Z1 M1 HRD; rw [← hp2] at q2 Z2 HRD; rw [← hp3] at q3 Z3 HRD; rw [← hp4] at q4 Z4 HRD
  clear hp0 hp1 hp2 hp3 hp4 HC HWZ
  obtain ⟨n0, hn0⟩ : ∃ n, n = readG p0 := ⟨_, rfl⟩
  obtain ⟨n1, hn1⟩ : ∃ n, n = readG p1 := ⟨_, rfl⟩
  have C0 := Lib.hid (fun w9 => spec_l1Read_any p0 w9 (Nat.le_trans Z0.out (by decide)))
  have C1 := Lib.hid (fun w9 => spec_l1Read_any p1 w9 (Nat.le_trans Z1.out (by decide)))
  rw [← hn0] at M0 C0; rw [← hn1] at M1 C1
  clear hn0 hn1
  go_upto_region 4 with fail
  go_cut [5] (fun s5 wx => s5 = .pointer (some ⟨w2.heap.size, 0, none⟩) ∧ ∃ n2 : Int, RInt p2 n2 ∧ Hid (BoxD wx w2.heap.size n0 (.slice none 0 0) (.slice none 0 0) n1 n2) ∧ Hid (Below w2.heap.size w2 wx) ∧ w2.heap.size + 1 ≤ wx.heap.size)
  case first =>
    replace q0 : w2.drew.cell? _ = _ := q0; replace q1 : w2.drew.cell? _ = _ := q1; replace q2 : w2.drew.cell? _ = _ := q2
    have HC2 := Lib.hid (fun w9 => spec_l1Signed_any p2 w9 Z2.out)
    clear q3 q4
    refine AnyB.begin (S := (fun w' => w'.cell? ⟨g, 0, none⟩ = some (.string p0) ∧ w'.cell? ⟨g, 1, none⟩ = some (.string p1) ∧ w'.cell? ⟨g, 2, none⟩ = some (.string p2))) [14] (by kernel_rfl) ?_ (fun hHeld0 => ?_)
    · ((try dsimp only); (first | exact ⟨q0, q1, q2⟩ | exact ⟨cell_alloc_keep _ q0, cell_alloc_keep _ q1, cell_alloc_keep _ q2⟩))
    refine AnyB.takeQ (i := 0) (oi := _) (v := ?_) (by simp only [List.getElem?_toArray, List.getElem?_cons_zero, List.getElem?_cons_succ]; rfl) (by kernel_rfl) (by kernel_rfl) (by kernel_rfl) (by intro _ _ _ h; exact h) (Or.inl ⟨by rfl, ?_⟩) ?_
    rotate_left
    · (intro w hSw; (try dsimp only at hSw); go_simp; (try (with_reducible rfl)))
    try simp only [Act.put, List.setIfInBounds_toArray, List.set_cons_zero, List.set_cons_succ]
    refine AnyB.takeQ (i := 1) (oi := _) (v := ?_) (by simp only [List.getElem?_toArray, List.getElem?_cons_zero, List.getElem?_cons_succ]; rfl) (by kernel_rfl) (by kernel_rfl) (by kernel_rfl) (by intro _ _ _ h; exact h) (Or.inl ⟨by rfl, ?_⟩) ?_
    rotate_left
    · (intro w hSw; (try dsimp only at hSw); go_simp; (try (with_reducible rfl)))
    try simp only [Act.put, List.setIfInBounds_toArray, List.set_cons_zero, List.set_cons_succ]
    refine AnyB.take (i := 2) (oi := _) (v := ?_) (by simp only [List.getElem?_toArray, List.getElem?_cons_zero, List.getElem?_cons_succ]; rfl) (by kernel_rfl) (by kernel_rfl) (by kernel_rfl) (by kernel_rfl) (by kernel_rfl) (by intro _ _ _ h; exact h) (Or.inl ⟨by rfl, ?_⟩) (by assumption) ?_
    rotate_left
    · (intro w hSw; (try dsimp only at hSw); go_simp; (try (with_reducible rfl)))
    try simp only [Act.put, List.setIfInBounds_toArray, List.set_cons_zero, List.set_cons_succ]
    refine AnyB.takeQ (i := 4) (oi := _) (v := ?_) (by simp only [List.getElem?_toArray, List.getElem?_cons_zero, List.getElem?_cons_succ]; rfl) (by kernel_rfl) (by kernel_rfl) (by kernel_rfl) (by intro _ _ _ h; exact h) (Or.inl ⟨by rfl, ?_⟩) ?_
    rotate_left
    · (intro w hSw; (try dsimp only at hSw); go_simp; (try (with_reducible rfl)))
    try simp only [Act.put, List.setIfInBounds_toArray, List.set_cons_zero, List.set_cons_succ]
    refine AnyB.takeQ (i := 5) (oi := _) (v := ?_) (by simp only [List.getElem?_toArray, List.getElem?_cons_zero, List.getElem?_cons_succ]; rfl) (by kernel_rfl) (by kernel_rfl) (by kernel_rfl) (by intro _ _ _ h; exact h) (Or.inl ⟨by rfl, ?_⟩) ?_
    rotate_left
    · (intro w hSw; (try dsimp only at hSw); go_simp; (try (with_reducible rfl)))
    try simp only [Act.put, List.setIfInBounds_toArray, List.set_cons_zero, List.set_cons_succ]
    refine AnyB.take (i := 6) (oi := _) (v := ?_) (by simp only [List.getElem?_toArray, List.getElem?_cons_zero, List.getElem?_cons_succ]; rfl) (by kernel_rfl) (by kernel_rfl) (by kernel_rfl) (by kernel_rfl) (by kernel_rfl) (by intro _ _ _ h; exact h) (Or.inl ⟨by rfl, ?_⟩) (by assumption) ?_
    rotate_left
    · (intro w hSw; (try dsimp only at hSw); go_simp; (try (with_reducible rfl)))
    try simp only [Act.put, List.setIfInBounds_toArray, List.set_cons_zero, List.set_cons_succ]
    refine AnyB.takeQ (i := 8) (oi := _) (v := ?_) (by simp only [List.getElem?_toArray, List.getElem?_cons_zero, List.getElem?_cons_succ]; rfl) (by kernel_rfl) (by kernel_rfl) (by kernel_rfl) (by intro _ _ _ h; exact h) (Or.inl ⟨by rfl, ?_⟩) ?_
    rotate_left
    · (intro w hSw; (try dsimp only at hSw); go_simp; (try (with_reducible rfl)))
    try simp only [Act.put, List.setIfInBounds_toArray, List.set_cons_zero, List.set_cons_succ]
    refine AnyB.takeQ (i := 9) (oi := _) (v := ?_) (by simp only [List.getElem?_toArray, List.getElem?_cons_zero, List.getElem?_cons_succ]; rfl) (by kernel_rfl) (by kernel_rfl) (by kernel_rfl) (by intro _ _ _ h; exact h) (Or.inl ⟨by rfl, ?_⟩) ?_
    rotate_left
    · (intro w hSw; (try dsimp only at hSw); go_simp; (try (with_reducible rfl)))
    try simp only [Act.put, List.setIfInBounds_toArray, List.set_cons_zero, List.set_cons_succ]
    refine AnyB.take (i := 10) (oi := _) (v := ?_) (by simp only [List.getElem?_toArray, List.getElem?_cons_zero, List.getElem?_cons_succ]; rfl) (by kernel_rfl) (by kernel_rfl) (by kernel_rfl) (by kernel_rfl) (by kernel_rfl) (by intro _ _ _ h; exact h) (Or.inl ⟨by rfl, ?_⟩) (by assumption) ?_
    rotate_left
    · (intro w hSw; (try dsimp only at hSw); go_simp; (try (with_reducible rfl)))
    try simp only [Act.put, List.setIfInBounds_toArray, List.set_cons_zero, List.set_cons_succ]
    refine AnyB.each (rs := [3, 13]) (by kernel_rfl) (by simp) ?_
    refine EachB.cons rfl (fun K hK hB => ?_) ?_
    · skip
      (go_simp; go_at_call 22; refine (C0.out _).mono ?_; rintro e w3 ⟨rfl, rfl⟩; dsimp only)
      refine hK.out _ _ ?_ (fun hHeld1 => ?_)
      · ((try dsimp only); (first | exact ⟨q0, q1, q2⟩ | exact ⟨cell_alloc_keep _ q0, cell_alloc_keep _ q1, cell_alloc_keep _ q2⟩))
      clear hB hK K hHeld0
      refine AnyB.each (rs := [7, 13]) (by kernel_rfl) (by simp) ?_
      refine EachB.cons rfl (fun K hK hB => ?_) ?_
      · skip
        (go_simp; go_at_call 22; refine (C1.out _).mono ?_; rintro e w3 ⟨rfl, rfl⟩; dsimp only)
        refine hK.out _ _ ?_ (fun hHeld2 => ?_)
        · ((try dsimp only); (first | exact ⟨q0, q1, q2⟩ | exact ⟨cell_alloc_keep _ q0, cell_alloc_keep _ q1, cell_alloc_keep _ q2⟩))
        clear hB hK K hHeld1
        refine AnyB.each (rs := [11, 13]) (by kernel_rfl) (by simp) ?_
        refine EachB.cons rfl (fun K hK hB => ?_) ?_
        · skip
          (go_simp; go_at_call 23; refine (HC2.out _).mono ?_; rintro e w3 ⟨⟨n2, rfl, _, _, hn2⟩, rfl⟩; dsimp only)
          refine hK.out _ _ ?_ (fun hHeld3 => ?_)
          · ((try dsimp only); (first | exact ⟨q0, q1, q2⟩ | exact ⟨cell_alloc_keep _ q0, cell_alloc_keep _ q1, cell_alloc_keep _ q2⟩))
          clear hB hK K hHeld2
          refine AnyB.takeQ (i := 12) (oi := _) (v := ?_) (by simp only [List.getElem?_toArray, List.getElem?_cons_zero, List.getElem?_cons_succ]; rfl) (by kernel_rfl) (by kernel_rfl) (by kernel_rfl) (by intro _ _ _ h; exact h) (Or.inl ⟨by rfl, ?_⟩) ?_
          rotate_left
          · (intro w hSw; (try dsimp only at hSw); go_simp; (try (with_reducible rfl)))
          try simp only [Act.put, List.setIfInBounds_toArray, List.set_cons_zero, List.set_cons_succ]
          refine AnyB.each (rs := [13]) (by kernel_rfl) (by simp) ?_
          refine EachB.cons rfl (fun K hK hB => ?_) ?_
          · skip
            go_simp
            refine hK.out _ _ ?_ (fun hHeld4 => ?_)
            · ((try dsimp only); (first | exact ⟨q0, q1, q2⟩ | exact ⟨cell_alloc_keep _ q0, cell_alloc_keep _ q1, cell_alloc_keep _ q2⟩))
            clear hB hK K hHeld3
            refine AnyB.each (rs := [14]) (by kernel_rfl) (by simp) ?_
            refine EachB.cons rfl (fun K hK hB => ?_) ?_
            · skip
              go_simp
              refine hB.out _ _ rfl ?_
              clear hB hK K
              refine AnyB.none (by kernel_rfl) ?_ _
              go_wp2_with fail
              go_meet
              exact ⟨rfl, n2, hn2, (BoxD.new w2 n0 (.slice none 0 0) (.slice none 0 0) n1 n2).drew, (show Below w2.heap.size w2 _ from (by repeat (first | exact Below.refl _ _ | assumption | refine Below.drew ?_ | refine below_drewN ?_ _ | refine Below.alloc ?_ (by first | omega | (simp <;> omega)) _ | refine Below.setCell ?_ (by first | omega | (simp <;> omega)) _ | refine Below.trans ?_ (Below.mono (by assumption) (by first | omega | (simp <;> omega)))))), by simp⟩
            exact EachB.nil
          exact EachB.nil
        refine EachB.cons rfl (fun K hK hB => ?_) ?_
        · skip
          go_simp
          refine hK.out _ _ ?_ (fun hHeld5 => ?_)
          · ((try dsimp only); (first | exact ⟨q0, q1, q2⟩ | exact ⟨cell_alloc_keep _ q0, cell_alloc_keep _ q1, cell_alloc_keep _ q2⟩))
          clear hB hK K hHeld2
          refine AnyB.each (rs := [11]) (by kernel_rfl) (by simp) ?_
          refine EachB.cons rfl (fun K hK hB => ?_) ?_
          · skip
            (go_simp; go_at_call 23; refine (HC2.out _).mono ?_; rintro e w3 ⟨⟨n2, rfl, _, _, hn2⟩, rfl⟩; dsimp only)
            refine hK.out _ _ ?_ (fun hHeld6 => ?_)
            · ((try dsimp only); (first | exact ⟨q0, q1, q2⟩ | exact ⟨cell_alloc_keep _ q0, cell_alloc_keep _ q1, cell_alloc_keep _ q2⟩))
            clear hB hK K hHeld5
            refine AnyB.takeQ (i := 12) (oi := _) (v := ?_) (by simp only [List.getElem?_toArray, List.getElem?_cons_zero, List.getElem?_cons_succ]; rfl) (by kernel_rfl) (by kernel_rfl) (by kernel_rfl) (by intro _ _ _ h; exact h) (Or.inl ⟨by rfl, ?_⟩) ?_
            rotate_left
            · (intro w hSw; (try dsimp only at hSw); go_simp; (try (with_reducible rfl)))
            try simp only [Act.put, List.setIfInBounds_toArray, List.set_cons_zero, List.set_cons_succ]
            refine AnyB.each (rs := [14]) (by kernel_rfl) (by simp) ?_
            refine EachB.cons rfl (fun K hK hB => ?_) ?_
            · skip
              go_simp
              refine hB.out _ _ rfl ?_
              clear hB hK K
              refine AnyB.none (by kernel_rfl) ?_ _
              go_wp2_with fail
              go_meet
              exact ⟨rfl, n2, hn2, (BoxD.new w2 n0 (.slice none 0 0) (.slice none 0 0) n1 n2).drew, (show Below w2.heap.size w2 _ from (by repeat (first | exact Below.refl _ _ | assumption | refine Below.drew ?_ | refine below_drewN ?_ _ | refine Below.alloc ?_ (by first | omega | (simp <;> omega)) _ | refine Below.setCell ?_ (by first | omega | (simp <;> omega)) _ | refine Below.trans ?_ (Below.mono (by assumption) (by first | omega | (simp <;> omega)))))), by simp⟩
            exact EachB.nil
          exact EachB.nil
        exact EachB.nil
      refine EachB.cons rfl (fun K hK hB => ?_) ?_
      · skip
        go_simp
        refine hK.out _ _ ?_ (fun hHeld7 => ?_)
        · ((try dsimp only); (first | exact ⟨q0, q1, q2⟩ | exact ⟨cell_alloc_keep _ q0, cell_alloc_keep _ q1, cell_alloc_keep _ q2⟩))
        clear hB hK K hHeld1
        refine AnyB.each (rs := [7]) (by kernel_rfl) (by simp) ?_
        refine EachB.cons rfl (fun K hK hB => ?_) ?_
        · skip
          (go_simp; go_at_call 22; refine (C1.out _).mono ?_; rintro e w3 ⟨rfl, rfl⟩; dsimp only)
          refine hK.out _ _ ?_ (fun hHeld8 => ?_)
          · ((try dsimp only); (first | exact ⟨q0, q1, q2⟩ | exact ⟨cell_alloc_keep _ q0, cell_alloc_keep _ q1, cell_alloc_keep _ q2⟩))
          clear hB hK K hHeld7
          refine AnyB.each (rs := [11]) (by kernel_rfl) (by simp) ?_
          refine EachB.cons rfl (fun K hK hB => ?_) ?_
          · skip
            (go_simp; go_at_call 23; refine (HC2.out _).mono ?_; rintro e w3 ⟨⟨n2, rfl, _, _, hn2⟩, rfl⟩; dsimp only)
            refine hK.out _ _ ?_ (fun hHeld9 => ?_)
            · ((try dsimp only); (first | exact ⟨q0, q1, q2⟩ | exact ⟨cell_alloc_keep _ q0, cell_alloc_keep _ q1, cell_alloc_keep _ q2⟩))
            clear hB hK K hHeld8
            refine AnyB.takeQ (i := 12) (oi := _) (v := ?_) (by simp only [List.getElem?_toArray, List.getElem?_cons_zero, List.getElem?_cons_succ]; rfl) (by kernel_rfl) (by kernel_rfl) (by kernel_rfl) (by intro _ _ _ h; exact h) (Or.inl ⟨by rfl, ?_⟩) ?_
            rotate_left
            · (intro w hSw; (try dsimp only at hSw); go_simp; (try (with_reducible rfl)))
            try simp only [Act.put, List.setIfInBounds_toArray, List.set_cons_zero, List.set_cons_succ]
            refine AnyB.each (rs := [14]) (by kernel_rfl) (by simp) ?_
            refine EachB.cons rfl (fun K hK hB => ?_) ?_
            · skip
              go_simp
              refine hB.out _ _ rfl ?_
              clear hB hK K
              refine AnyB.none (by kernel_rfl) ?_ _
              go_wp2_with fail
              go_meet
              exact ⟨rfl, n2, hn2, (BoxD.new w2 n0 (.slice none 0 0) (.slice none 0 0) n1 n2).drew, (show Below w2.heap.size w2 _ from (by repeat (first | exact Below.refl _ _ | assumption | refine Below.drew ?_ | refine below_drewN ?_ _ | refine Below.alloc ?_ (by first | omega | (simp <;> omega)) _ | refine Below.setCell ?_ (by first | omega | (simp <;> omega)) _ | refine Below.trans ?_ (Below.mono (by assumption) (by first | omega | (simp <;> omega)))))), by simp⟩
            exact EachB.nil
          exact EachB.nil
        exact EachB.nil
      exact EachB.nil
    refine EachB.cons rfl (fun K hK hB => ?_) ?_
    · skip
      go_simp
      refine hK.out _ _ ?_ (fun hHeld10 => ?_)
      · ((try dsimp only); (first | exact ⟨q0, q1, q2⟩ | exact ⟨cell_alloc_keep _ q0, cell_alloc_keep _ q1, cell_alloc_keep _ q2⟩))
      clear hB hK K hHeld0
      refine AnyB.each (rs := [3]) (by kernel_rfl) (by simp) ?_
      refine EachB.cons rfl (fun K hK hB => ?_) ?_
      · skip
        (go_simp; go_at_call 22; refine (C0.out _).mono ?_; rintro e w3 ⟨rfl, rfl⟩; dsimp only)
        refine hK.out _ _ ?_ (fun hHeld11 => ?_)
        · ((try dsimp only); (first | exact ⟨q0, q1, q2⟩ | exact ⟨cell_alloc_keep _ q0, cell_alloc_keep _ q1, cell_alloc_keep _ q2⟩))
        clear hB hK K hHeld10
        refine AnyB.each (rs := [7]) (by kernel_rfl) (by simp) ?_
        refine EachB.cons rfl (fun K hK hB => ?_) ?_
        · skip
          (go_simp; go_at_call 22; refine (C1.out _).mono ?_; rintro e w3 ⟨rfl, rfl⟩; dsimp only)
          refine hK.out _ _ ?_ (fun hHeld12 => ?_)
          · ((try dsimp only); (first | exact ⟨q0, q1, q2⟩ | exact ⟨cell_alloc_keep _ q0, cell_alloc_keep _ q1, cell_alloc_keep _ q2⟩))
          clear hB hK K hHeld11
          refine AnyB.each (rs := [11]) (by kernel_rfl) (by simp) ?_
          refine EachB.cons rfl (fun K hK hB => ?_) ?_
          · skip
            (go_simp; go_at_call 23; refine (HC2.out _).mono ?_; rintro e w3 ⟨⟨n2, rfl, _, _, hn2⟩, rfl⟩; dsimp only)
            refine hK.out _ _ ?_ (fun hHeld13 => ?_)
            · ((try dsimp only); (first | exact ⟨q0, q1, q2⟩ | exact ⟨cell_alloc_keep _ q0, cell_alloc_keep _ q1, cell_alloc_keep _ q2⟩))
            clear hB hK K hHeld12
            refine AnyB.takeQ (i := 12) (oi := _) (v := ?_) (by simp only [List.getElem?_toArray, List.getElem?_cons_zero, List.getElem?_cons_succ]; rfl) (by kernel_rfl) (by kernel_rfl) (by kernel_rfl) (by intro _ _ _ h; exact h) (Or.inl ⟨by rfl, ?_⟩) ?_
            rotate_left
            · (intro w hSw; (try dsimp only at hSw); go_simp; (try (with_reducible rfl)))
            try simp only [Act.put, List.setIfInBounds_toArray, List.set_cons_zero, List.set_cons_succ]
            refine AnyB.each (rs := [14]) (by kernel_rfl) (by simp) ?_
            refine EachB.cons rfl (fun K hK hB => ?_) ?_
            · skip
              go_simp
              refine hB.out _ _ rfl ?_
              clear hB hK K
              refine AnyB.none (by kernel_rfl) ?_ _
              go_wp2_with fail
              go_meet
              exact ⟨rfl, n2, hn2, (BoxD.new w2 n0 (.slice none 0 0) (.slice none 0 0) n1 n2).drew, (show Below w2.heap.size w2 _ from (by repeat (first | exact Below.refl _ _ | assumption | refine Below.drew ?_ | refine below_drewN ?_ _ | refine Below.alloc ?_ (by first | omega | (simp <;> omega)) _ | refine Below.setCell ?_ (by first | omega | (simp <;> omega)) _ | refine Below.trans ?_ (Below.mono (by assumption) (by first | omega | (simp <;> omega)))))), by simp⟩
            exact EachB.nil
          exact EachB.nil
        exact EachB.nil
      exact EachB.nil
    exact EachB.nil
  case rest =>
    obtain ⟨rfl, n2, hn2, HB, hBw, hz⟩ := hcut
    have M2 := Lib.hid hn2
    clear hn2 q0 q1 q2
    obtain ⟨B, hBe⟩ : ∃ B, B = w2.heap.size := ⟨_, rfl⟩
    rw [← hBe] at HB hBw hz ⊢
    have hgB : g < B := by rw [hBe]; exact hg1
    have hwB : w.heap.size < B := by omega
    replace q3 := (hBw.out.cell (p := ⟨g, 3, none⟩) hgB).trans q3
    replace q4 := (hBw.out.cell (p := ⟨g, 4, none⟩) hgB).trans q4
    have BWW := Lib.hid (show Below w.heap.size w wc from Below.trans B2.out (hBw.out.mono (by omega)))
    have HR := Lib.hid (show BoxD wc w.heap.size 0 (.slice none 0 0) (.slice none 0 0) 0 0 from R2.out.bel (by rw [← hBe]; exact hBw.out))
    clear hBe hBw R2 B2 C0 C1
    go_wp2_with fail
    refine (spec_l1Split_any p3 44 _ Z3.out).mono ?_; rintro e w4 ⟨v4, us, rfl, ho4, hus, hb4⟩
    obtain rfl := words_of hus
    clear hus
    obtain ⟨g2, cap2, rfl, hg2, hg3, hC4⟩ := split_cells ho4
    have HC4 : Hid (Wd w4 g2 (wordsOf 44 p3)) := hC4
    have hwz : ∀ i, ((wordsOf 44 p3).getD i ⟨#[]⟩).size ≤ 1048576 := fun i => by
      by_cases h : i < (wordsOf 44 p3).length
      · have h2 : (wordsOf 44 p3).getD i ⟨#[]⟩ ∈ wordsOf 44 p3 := by simp [List.getD, h]
        exact Nat.le_trans (wordsOf_size h2) Z3.out
      · rw [show (wordsOf 44 p3).getD i ⟨#[]⟩ = ⟨#[]⟩ from by simp [List.getD, h]]; decide
    have HWZ := Lib.hid hwz
    have hcnt := wordsOf_count 44 p3
    have hz3 := Z3.out
    have HB4 := Lib.hid (HB.out.bel hb4)
    have HR4 := Lib.hid (HR.out.bel hb4)
    have B4 := Lib.hid (below_step BWW.out hb4)
    have Q4 := Lib.hid (bel_zx hb4 q4)
    have z4 : B + 1 ≤ w4.heap.size := Nat.le_trans hz hb4.size
    have hg2B : B + 1 ≤ g2 := by omega
    clear ho4 hb4 hC4 hwz HB HR BWW q3 q4 hz
    obtain ⟨us, hus⟩ : ∃ us, us = wordsOf 44 p3 := ⟨_, rfl⟩
    rw [← hus] at HC4 HWZ hcnt HRD ⊢
    clear hus
    have c1 := HB4.out.c1
    go_wp2_with fail
    obtain ⟨i0, hi, hz0, hz1, hz2⟩ := info_parts info_Node
    obtain ⟨BS, hBS⟩ : ∃ BS, BS = w4.heap.size := ⟨_, rfl⟩
    rw [← hBS] at z4 hg3
    have HBS := Lib.hid (show BS ≤ w4.heap.size from by omega)
    go_loopw [34] (fun si wr => ∃ (xs : List E2) (u : Value), xs.length ≤ us.length ∧ si = .int .i64 xs.length ∧ Hid (∀ j, j < xs.length → RN (us.getD j ⟨#[]⟩) (xs.getD j ⟨0, 0⟩)) ∧ Hid (OwnE wr BS 36 u E2.cs 2 xs) ∧ Hid (BoxD wr B n0 u (.slice none 0 0) n1 n2) ∧ Hid (BoxD wr w.heap.size 0 (.slice none 0 0) (.slice none 0 0) 0 0) ∧ Hid (Wd wr g2 us) ∧ Hid (wr.cell? ⟨g, 4, none⟩ = some (.string p4)) ∧ Hid (Below w.heap.size w wr) ∧ BS ≤ wr.heap.size) (fun si _ => us.length - (intOf si).toNat)
    case atStart => exact ⟨[], _, Nat.zero_le _, rfl, (show ∀ j, j < 0 → _ from fun j hj => by omega), (OwnE.nil _ _ _), HB4, HR4, HC4, Q4, B4, HBS.out⟩
    case round =>
      clear HB4 HR4 HC4 Q4 B4 HBS c1 hBS
      obtain ⟨xs, u, hk, rfl, hP, hO, hX, hR, hC, hQ, hBw, hsz⟩ := hrel
      by_cases hlt : xs.length < us.length
      · have i1 : (xs.length : Int) < (us.length : Int) := by omega
        have ct := hC.out xs.length hlt
        have HZT := Lib.hid (HWZ.out xs.length)
        have HRN := Lib.hid (fun (w9 : World) => spec_l16ReadNode_any (us.getD xs.length ⟨#[]⟩) w9 HZT.out)
        have HNX := Lib.hid (fun (x : E2) h => list_next (P := RN) (ws := us) (d := ⟨0, 0⟩) (xs := xs) (x := x) hP.out h)
        obtain ⟨t, ht⟩ : ∃ t, t = us.getD xs.length ⟨#[]⟩ := ⟨_, rfl⟩
        rw [← ht] at ct HRN HNX
        clear ht HZT hP
        obtain ⟨aU, cU, rfl⟩ := hO.out.forms
        have hXs := Lib.hid (fun (x : E2) => flat_snoc E2.cs xs x)
        go_upto_region 8 with fail
        have c1 : wr.drew.cell? ⟨B, 1, none⟩ = some (.slice aU xs.length cU) := hX.out.c1
        replace hO := Lib.hid (show wr.drew.ownsRow BS 36 2 (.slice aU xs.length cU) xs.length (xs.flatMap E2.cs) from own_below hO.out (show Below wr.heap.size wr wr.drew from (by repeat (first | exact Below.refl _ _ | assumption | refine Below.drew ?_ | refine below_drewN ?_ _ | refine Below.alloc ?_ (by first | omega | (simp <;> omega)) _ | refine Below.setCell ?_ (by first | omega | (simp <;> omega)) _ | refine Below.trans ?_ (Below.mono (by assumption) (by first | omega | (simp <;> omega)))))) rfl)
        replace hX := Lib.hid hX.out.drew; replace hR := Lib.hid hR.out.drew; replace hC := Lib.hid hC.out.drew
        replace hQ := Lib.hid (show wr.drew.cell? _ = _ from hQ.out)
        replace hBw := Lib.hid (Below.drew hBw.out)
        replace hsz : BS ≤ wr.drew.heap.size := hsz
        refine AnyB.begin (S := (fun w' => w'.cell? ⟨B, 1, none⟩ = some (.slice aU xs.length cU))) [7] (by kernel_rfl) ?_ (fun hHeld0 => ?_)
        · ((try dsimp only); (first | exact c1 | exact cell_alloc_keep _ c1))
        refine AnyB.takeQ (i := 0) (oi := _) (v := ?_) (by simp only [List.getElem?_toArray, List.getElem?_cons_zero, List.getElem?_cons_succ]; rfl) (by kernel_rfl) (by kernel_rfl) (by kernel_rfl) (by intro _ _ _ h; exact h) (Or.inl ⟨by rfl, ?_⟩) ?_
        rotate_left
        · (intro w hSw; (try dsimp only at hSw); go_simp; (try (with_reducible rfl)))
        try simp only [Act.put, List.setIfInBounds_toArray, List.set_cons_zero, List.set_cons_succ]
        refine AnyB.take (i := 1) (oi := _) (v := ?_) (by simp only [List.getElem?_toArray, List.getElem?_cons_zero, List.getElem?_cons_succ]; rfl) (by kernel_rfl) (by kernel_rfl) (by kernel_rfl) (by kernel_rfl) (by kernel_rfl) (by intro _ _ _ h; exact h) (Or.inl ⟨by rfl, ?_⟩) (by assumption) ?_
        rotate_left
        · (intro w hSw; (try dsimp only at hSw); go_simp; (try (with_reducible rfl)))
        try simp only [Act.put, List.setIfInBounds_toArray, List.set_cons_zero, List.set_cons_succ]
        refine AnyB.takeQ (i := 2) (oi := _) (v := ?_) (by simp only [List.getElem?_toArray, List.getElem?_cons_zero, List.getElem?_cons_succ]; rfl) (by kernel_rfl) (by kernel_rfl) (by kernel_rfl) (by intro _ _ _ h; exact h) (Or.inl ⟨by rfl, ?_⟩) ?_
        rotate_left
        · (intro w hSw; (try dsimp only at hSw); go_simp; (try (with_reducible rfl)))
        try simp only [Act.put, List.setIfInBounds_toArray, List.set_cons_zero, List.set_cons_succ]
        refine AnyB.each (rs := [3]) (by kernel_rfl) (by simp) ?_
        refine EachB.cons rfl (fun K hK hB => ?_) ?_
        · skip
          (go_simp; go_at_call 24; refine (HRN.out _).mono ?_; rintro e w5 ⟨⟨x, rfl, _, _, hx⟩, hb5⟩; replace c1 := bel_zx hb5 c1; replace hO := Lib.hid (own_below hO.out hb5 rfl); replace hX := Lib.hid (hX.out.bel hb5); replace hR := Lib.hid (hR.out.bel hb5); replace hC := Lib.hid (hC.out.bel hb5); replace hQ := Lib.hid (bel_zx hb5 hQ.out); replace hBw := Lib.hid (below_step hBw.out hb5); replace hsz := Nat.le_trans hsz hb5.size; have HN2 := Lib.hid (HNX.out x hx); clear hb5 hx; dsimp only)
          refine hK.out _ _ ?_ (fun hHeld1 => ?_)
          · ((try dsimp only); (first | exact c1 | exact cell_alloc_keep _ c1))
          clear hB hK K hHeld0
          refine AnyB.each (rs := [4]) (by kernel_rfl) (by simp) ?_
          refine EachB.cons rfl (fun K hK hB => ?_) ?_
          · skip
            go_simp
            refine hK.out _ _ ?_ (fun hHeld2 => ?_)
            · ((try dsimp only); (first | exact c1 | exact cell_alloc_keep _ c1))
            clear hB hK K hHeld1
            refine AnyB.each (rs := [5]) (by kernel_rfl) (by simp) ?_
            refine EachB.cons rfl (fun K hK hB => ?_) ?_
            · skip
              (refine step_append_lies _ (by rfl) (.tmp 39) (.tmp 42) 22 (by rfl) BS 36 i0 (.agg #[.int .i64 0, .int .i64 0]) 2 16 Tryz.underlying22 hi hz0 hz1 hz2 rfl (by omega) (.slice aU xs.length cU) xs.length _ (by rfl) (hO.out.alloc _) _ 1 1 (E2.cs x) (by rfl) (by rfl) (news_cells w5 (E2.cs x) 36) (E2.one x) (by omega) (by unfold maxLen; omega) (by omega) (by simp; omega) _ rfl ?_; intro gg cp w6 hown hgr hat hlt6; replace hX := Lib.hid ((hX.out.alloc _).grown (hO.out.alloc _) hgr (by omega)); replace hR := Lib.hid ((hR.out.alloc _).grown (hO.out.alloc _) hgr (by omega)); replace hC := Lib.hid ((hC.out.alloc _).grown (hO.out.alloc _) hgr (by omega)); replace hQ := Lib.hid (cell_gz (hO.out.alloc _) hgr (by omega) (cell_alloc_keep _ hQ.out)); replace hBw := Lib.hid (show Below w.heap.size w w6 from (hBw.out.alloc (by omega) _).grown hgr (by simp; omega) (fun b hb => by have := (World.ownsRow.lt hO.out b hb).1; omega)); replace hsz : BS ≤ w6.heap.size := Nat.le_trans (Nat.le_trans hsz (by simp)) hgr.size; have hON := Lib.hid (show OwnE w6 BS 36 (.slice (some ⟨gg, 0, none⟩) (xs.length + 1) cp) E2.cs 2 (xs ++ [x]) from by unfold OwnE; rw [hXs.out, List.length_append]; exact hown); replace c1 := hX.out.c1; have f1 := hX.out.f1; clear hown hgr hat)
              refine hK.out _ _ ?_ (fun hHeld3 => ?_)
              · ((try dsimp only); (first | exact c1 | exact cell_alloc_keep _ c1))
              clear hB hK K hHeld2
              refine AnyB.takeQ (i := 6) (oi := _) (v := ?_) (by simp only [List.getElem?_toArray, List.getElem?_cons_zero, List.getElem?_cons_succ]; rfl) (by kernel_rfl) (by kernel_rfl) (by kernel_rfl) (by intro _ _ _ h; exact h) (Or.inl ⟨by rfl, ?_⟩) ?_
              rotate_left
              · (intro w hSw; (try dsimp only at hSw); go_simp; (try (with_reducible rfl)))
              try simp only [Act.put, List.setIfInBounds_toArray, List.set_cons_zero, List.set_cons_succ]
              refine AnyB.each (rs := [7]) (by kernel_rfl) (by simp) ?_
              refine EachB.cons rfl (fun K hK hB => ?_) ?_
              · skip
                go_simp
                refine hB.out _ _ rfl ?_
                clear hB hK K
                refine AnyB.none (by kernel_rfl) ?_ _
                go_wp2_with fail
                go_roundw
                case rel => exact ⟨xs ++ [x], .slice (some ⟨gg, 0, none⟩) (xs.length + 1) cp, by simp; omega, by (rw [List.length_append, List.length_singleton]; go_num), HN2, hON.out.set (by show B < BS; omega) _, hX.out.set1 _, (BoxD.oth hR.out (by omega) _), hC.out.set (by omega) _, (World.cell?_setCell_other _ _ _ _ (fun e => by injection e; omega)).trans hQ.out, Below.setCell hBw.out (by show w.heap.size ≤ B; omega) _, by simpa using hsz⟩
                case measure => simp [intOf]; omega
              exact EachB.nil
            exact EachB.nil
          exact EachB.nil
        exact EachB.nil
      · have i1 : ¬ (xs.length : Int) < (us.length : Int) := by omega
        have HRN := Lib.hid (show ReadN us xs from ⟨by omega, fun j hj => hP.out j (by omega)⟩)
        have q4 := hQ.out
        obtain ⟨aN, cN, rfl⟩ := hO.out.forms
        have hlx : xs.length ≤ 2097152 := by omega
        clear hP hC hQ
        go_wp2_with fail
        refine (spec_l1Split_any p4 44 _ Z4.out).mono ?_; rintro e w7 ⟨v7, zs, rfl, ho7, hzs, hb7⟩
        obtain rfl := words_of hzs
        clear hzs
        obtain ⟨g5, cap5, rfl, hg5, hg6, hC7⟩ := split_cells ho7
        have HC7 : Hid (Wd w7 g5 (wordsOf 44 p4)) := hC7
        have hwz : ∀ i, ((wordsOf 44 p4).getD i ⟨#[]⟩).size ≤ 1048576 := fun i => by
          by_cases h : i < (wordsOf 44 p4).length
          · have h2 : (wordsOf 44 p4).getD i ⟨#[]⟩ ∈ wordsOf 44 p4 := by simp [List.getD, h]
            exact Nat.le_trans (wordsOf_size h2) Z4.out
          · rw [show (wordsOf 44 p4).getD i ⟨#[]⟩ = ⟨#[]⟩ from by simp [List.getD, h]]; decide
        have HWZ2 := Lib.hid hwz
        have hcnt2 := wordsOf_count 44 p4
        have hz4 := Z4.out
        have HX7 := Lib.hid (hX.out.bel hb7)
        have HR7 := Lib.hid (hR.out.bel hb7)
        have B7 := Lib.hid (below_step hBw.out hb7)
        have ON7 := Lib.hid (hO.out.below hb7 rfl)
        have HNB := Lib.hid (fun g hg => (hO.out.lt g hg).2)
        have z7 : BS ≤ w7.heap.size := Nat.le_trans hsz hb7.size
        have hz9 := hb7.size
        clear ho7 hb7 hC7 hwz hX hR hBw hO q4
        obtain ⟨zs, hzs⟩ : ∃ zs, zs = wordsOf 44 p4 := ⟨_, rfl⟩
        rw [← hzs] at HC7 HWZ2 hcnt2 HRD ⊢
        clear hzs
        have c2 := HX7.out.c2
        obtain ⟨k0, ki, kz0, kz1, kz2⟩ := info_parts info_Wire
        obtain ⟨BT, hBT⟩ : ∃ BT, BT = w7.heap.size := ⟨_, rfl⟩
        have HNB2 := Lib.hid (show ∀ g, (Value.slice aN xs.length cN).ownBlock = some g → g < BT from fun g hg => by have := HNB.out g hg; omega)
        rw [← hBT] at z7 hg6
        have HBT := Lib.hid (show BT ≤ w7.heap.size from by omega)
        have hg5B : BS ≤ g5 := by omega
        clear HNB hz9 hsz
        go_wp2_with fail
        go_loopw [51] (fun si wr => ∃ (ys : List EW) (u : Value), ys.length ≤ zs.length ∧ si = .int .i64 ys.length ∧ Hid (∀ j, j < ys.length → RW (zs.getD j ⟨#[]⟩) (ys.getD j ⟨0, 0, false⟩)) ∧ Hid (∀ j, j < ys.length → -1 ≤ (ys.getD j ⟨0, 0, false⟩).b ∧ (ys.getD j ⟨0, 0, false⟩).b ≤ 1000000) ∧ Hid (OwnE wr BT 40 u EW.cs 3 ys) ∧ Hid (OwnE wr BS 36 (.slice aN xs.length cN) E2.cs 2 xs) ∧ Hid (BoxD wr B n0 (.slice aN xs.length cN) u n1 n2) ∧ Hid (BoxD wr w.heap.size 0 (.slice none 0 0) (.slice none 0 0) 0 0) ∧ Hid (Wd wr g5 zs) ∧ Hid (Below w.heap.size w wr) ∧ BT ≤ wr.heap.size) (fun si _ => zs.length - (intOf si).toNat)
        case atStart => exact ⟨[], _, Nat.zero_le _, rfl, (show ∀ j, j < 0 → _ from fun j hj => by omega), (show ∀ j, j < 0 → _ from fun j hj => by omega), (OwnE.nil _ _ _), ON7, HX7, HR7, HC7, B7, HBT.out⟩
        case round =>
          clear HX7 HR7 HC7 B7 HBT c2 hBT ON7
          obtain ⟨ys, u, hk2, rfl, hP, hI, hO, hN, hX, hR, hC, hBw, hsz⟩ := hrel
          by_cases hlt2 : ys.length < zs.length
          · have i2 : (ys.length : Int) < (zs.length : Int) := by omega
            have ct := hC.out ys.length hlt2
            have HZT := Lib.hid (HWZ2.out ys.length)
            have HRW := Lib.hid (fun (w9 : World) => spec_l16ReadWire_any (zs.getD ys.length ⟨#[]⟩) w9 HZT.out)
            have HNX := Lib.hid (fun (x : EW) h => list_next (P := RW) (ws := zs) (d := ⟨0, 0, false⟩) (xs := ys) (x := x) hP.out h)
            have HNI := Lib.hid (fun (x : EW) h => list_next (P := fun (_ : ByteArray) (x : EW) => -1 ≤ x.b ∧ x.b ≤ 1000000) (ws := zs) (d := ⟨0, 0, false⟩) (xs := ys) (x := x) hI.out h)
            obtain ⟨t, ht⟩ : ∃ t, t = zs.getD ys.length ⟨#[]⟩ := ⟨_, rfl⟩
            rw [← ht] at ct HRW HNX
            clear ht HZT hP hI
            obtain ⟨aU, cU, rfl⟩ := hO.out.forms
            have hXs := Lib.hid (fun (x : EW) => flat_snoc EW.cs ys x)
            go_upto_region 13 with fail
            have c1 : wr.drew.cell? ⟨B, 2, none⟩ = some (.slice aU ys.length cU) := hX.out.c2
            replace hO := Lib.hid (show wr.drew.ownsRow BT 40 3 (.slice aU ys.length cU) ys.length (ys.flatMap EW.cs) from own_below hO.out (show Below wr.heap.size wr wr.drew from (by repeat (first | exact Below.refl _ _ | assumption | refine Below.drew ?_ | refine below_drewN ?_ _ | refine Below.alloc ?_ (by first | omega | (simp <;> omega)) _ | refine Below.setCell ?_ (by first | omega | (simp <;> omega)) _ | refine Below.trans ?_ (Below.mono (by assumption) (by first | omega | (simp <;> omega)))))) rfl)
            replace hN := Lib.hid (show OwnE wr.drew BS 36 (.slice aN xs.length cN) E2.cs 2 xs from hN.out.below (show Below wr.heap.size wr wr.drew from (by repeat (first | exact Below.refl _ _ | assumption | refine Below.drew ?_ | refine below_drewN ?_ _ | refine Below.alloc ?_ (by first | omega | (simp <;> omega)) _ | refine Below.setCell ?_ (by first | omega | (simp <;> omega)) _ | refine Below.trans ?_ (Below.mono (by assumption) (by first | omega | (simp <;> omega)))))) rfl)
            replace hX := Lib.hid hX.out.drew; replace hR := Lib.hid hR.out.drew; replace hC := Lib.hid hC.out.drew
            replace hBw := Lib.hid (Below.drew hBw.out)
            replace hsz : BT ≤ wr.drew.heap.size := hsz
            refine AnyB.begin (S := (fun w' => w'.cell? ⟨B, 2, none⟩ = some (.slice aU ys.length cU))) [7] (by kernel_rfl) ?_ (fun hHeld0 => ?_)
            · ((try dsimp only); (first | exact c1 | exact cell_alloc_keep _ c1))
            refine AnyB.takeQ (i := 0) (oi := _) (v := ?_) (by simp only [List.getElem?_toArray, List.getElem?_cons_zero, List.getElem?_cons_succ]; rfl) (by kernel_rfl) (by kernel_rfl) (by kernel_rfl) (by intro _ _ _ h; exact h) (Or.inl ⟨by rfl, ?_⟩) ?_
            rotate_left
            · (intro w hSw; (try dsimp only at hSw); go_simp; (try (with_reducible rfl)))
            try simp only [Act.put, List.setIfInBounds_toArray, List.set_cons_zero, List.set_cons_succ]
            refine AnyB.take (i := 1) (oi := _) (v := ?_) (by simp only [List.getElem?_toArray, List.getElem?_cons_zero, List.getElem?_cons_succ]; rfl) (by kernel_rfl) (by kernel_rfl) (by kernel_rfl) (by kernel_rfl) (by kernel_rfl) (by intro _ _ _ h; exact h) (Or.inl ⟨by rfl, ?_⟩) (by assumption) ?_
            rotate_left
            · (intro w hSw; (try dsimp only at hSw); go_simp; (try (with_reducible rfl)))
            try simp only [Act.put, List.setIfInBounds_toArray, List.set_cons_zero, List.set_cons_succ]
            refine AnyB.takeQ (i := 2) (oi := _) (v := ?_) (by simp only [List.getElem?_toArray, List.getElem?_cons_zero, List.getElem?_cons_succ]; rfl) (by kernel_rfl) (by kernel_rfl) (by kernel_rfl) (by intro _ _ _ h; exact h) (Or.inl ⟨by rfl, ?_⟩) ?_
            rotate_left
            · (intro w hSw; (try dsimp only at hSw); go_simp; (try (with_reducible rfl)))
            try simp only [Act.put, List.setIfInBounds_toArray, List.set_cons_zero, List.set_cons_succ]
            refine AnyB.each (rs := [3]) (by kernel_rfl) (by simp) ?_
            refine EachB.cons rfl (fun K hK hB => ?_) ?_
            · skip
              (go_simp; go_at_call 25; refine (HRW.out _).mono ?_; rintro e w5 ⟨⟨x, rfl, _, hxb, hx⟩, hb5⟩; replace c1 := bel_zx hb5 c1; replace hO := Lib.hid (own_below hO.out hb5 rfl); replace hN := Lib.hid (hN.out.below hb5 rfl); replace hX := Lib.hid (hX.out.bel hb5); replace hR := Lib.hid (hR.out.bel hb5); replace hC := Lib.hid (hC.out.bel hb5); replace hBw := Lib.hid (below_step hBw.out hb5); replace hsz := Nat.le_trans hsz hb5.size; have HN2 := Lib.hid (HNX.out x hx); have HI2 := Lib.hid (HNI.out x hxb); clear hb5 hx hxb; dsimp only)
              refine hK.out _ _ ?_ (fun hHeld1 => ?_)
              · ((try dsimp only); (first | exact c1 | exact cell_alloc_keep _ c1))
              clear hB hK K hHeld0
              refine AnyB.each (rs := [4]) (by kernel_rfl) (by simp) ?_
              refine EachB.cons rfl (fun K hK hB => ?_) ?_
              · skip
                go_simp
                refine hK.out _ _ ?_ (fun hHeld2 => ?_)
                · ((try dsimp only); (first | exact c1 | exact cell_alloc_keep _ c1))
                clear hB hK K hHeld1
                refine AnyB.each (rs := [5]) (by kernel_rfl) (by simp) ?_
                refine EachB.cons rfl (fun K hK hB => ?_) ?_
                · skip
                  (refine step_append_lies _ (by rfl) (.tmp 56) (.tmp 59) 23 (by rfl) BT 40 k0 (.agg #[.int .i64 0, .int .i64 0, .bool false]) 3 24 Tryz.underlying23 ki kz0 kz1 kz2 rfl (by omega) (.slice aU ys.length cU) ys.length _ (by rfl) (hO.out.alloc _) _ 1 1 (EW.cs x) (by rfl) (by rfl) (news_cells w5 (EW.cs x) 40) (EW.one x) (by omega) (by unfold maxLen; omega) (by omega) (by simp; omega) _ rfl ?_; intro gg cp w6 hown hgr hat hlt6; replace hX := Lib.hid ((hX.out.alloc _).grown (hO.out.alloc _) hgr (by omega)); replace hR := Lib.hid ((hR.out.alloc _).grown (hO.out.alloc _) hgr (by omega)); replace hC := Lib.hid ((hC.out.alloc _).grown (hO.out.alloc _) hgr (by omega)); replace hN := Lib.hid (show OwnE w6 BS 36 (.slice aN xs.length cN) E2.cs 2 xs from own_other hgr (World.ownsRow.alloc hN.out _) (fun g a b => by have h1 := HNB2.out g a; have h2 := (World.ownsRow.lt hO.out g b).1; omega)); replace hBw := Lib.hid (show Below w.heap.size w w6 from (hBw.out.alloc (by omega) _).grown hgr (by simp; omega) (fun b hb => by have := (World.ownsRow.lt hO.out b hb).1; omega)); replace hsz : BT ≤ w6.heap.size := Nat.le_trans (Nat.le_trans hsz (by simp)) hgr.size; have hON := Lib.hid (show OwnE w6 BT 40 (.slice (some ⟨gg, 0, none⟩) (ys.length + 1) cp) EW.cs 3 (ys ++ [x]) from by unfold OwnE; rw [hXs.out, List.length_append]; exact hown); replace c1 := hX.out.c2; have f1 := hX.out.f2; clear hown hgr hat)
                  refine hK.out _ _ ?_ (fun hHeld3 => ?_)
                  · ((try dsimp only); (first | exact c1 | exact cell_alloc_keep _ c1))
                  clear hB hK K hHeld2
                  refine AnyB.takeQ (i := 6) (oi := _) (v := ?_) (by simp only [List.getElem?_toArray, List.getElem?_cons_zero, List.getElem?_cons_succ]; rfl) (by kernel_rfl) (by kernel_rfl) (by kernel_rfl) (by intro _ _ _ h; exact h) (Or.inl ⟨by rfl, ?_⟩) ?_
                  rotate_left
                  · (intro w hSw; (try dsimp only at hSw); go_simp; (try (with_reducible rfl)))
                  try simp only [Act.put, List.setIfInBounds_toArray, List.set_cons_zero, List.set_cons_succ]
                  refine AnyB.each (rs := [7]) (by kernel_rfl) (by simp) ?_
                  refine EachB.cons rfl (fun K hK hB => ?_) ?_
                  · skip
                    go_simp
                    refine hB.out _ _ rfl ?_
                    clear hB hK K
                    refine AnyB.none (by kernel_rfl) ?_ _
                    go_wp2_with fail
                    go_roundw
                    case rel => exact ⟨ys ++ [x], .slice (some ⟨gg, 0, none⟩) (ys.length + 1) cp, by simp; omega, by (rw [List.length_append, List.length_singleton]; go_num), HN2, HI2, hON.out.set (by show B < BT; omega) _, hN.out.set (by show B < BS; omega) _, hX.out.set2 _, (BoxD.oth hR.out (by omega) _), hC.out.set (by omega) _, Below.setCell hBw.out (by show w.heap.size ≤ B; omega) _, by simpa using hsz⟩
                    case measure => simp [intOf]; omega
                  exact EachB.nil
                exact EachB.nil
              exact EachB.nil
            exact EachB.nil
          · have i2 : ¬ (ys.length : Int) < (zs.length : Int) := by omega
            have HRW := Lib.hid (show ReadW zs ys from ⟨by omega, fun j hj => hP.out j (by omega)⟩)
            have HBW := Lib.hid hI.out
            have hly : ys.length ≤ 2097152 := by omega
            obtain ⟨aW, cW, rfl⟩ := hO.out.forms
            have HRZ := Lib.hid (show ReadsZ s ⟨n0, xs, ys, n1, n2⟩ from reads_of (by rw [← HPS.out]; exact HRD.out ⟨n0, xs, ys, n1, n2⟩ M0.out M1.out M2.out HRN.out (fun _ => HRW.out)))
            have hD := Lib.hid (show DiaIn wr BS ⟨n0, xs, ys, n1, n2⟩ (.slice aN xs.length cN) (.slice aW ys.length cW) from ⟨hN.out, hO.out.le z7, fun g a b => by have h1 := HNB2.out g a; have h2 := (hO.out.lt g b).1; omega⟩)
            have hRS : w.heap.size < BS := by omega
            clear hP hI hC hO hN
            have HGD := Lib.hid (fun (w9 : World) h0 h1 => spec_l16Good_any ⟨n0, xs, ys, n1, n2⟩ (.slice aN xs.length cN) (.slice aW ys.length cW) w9 h0 h1 hlx hly HBW.out)
            have HTX := Lib.hid (fun (w9 : World) h0 h1 h => spec_l16Text_any ⟨n0, xs, ys, n1, n2⟩ (.slice aN xs.length cN) (.slice aW ys.length cW) w9 h0 h1 hly h)
            have x0 := hX.out.c0; have x1 := hX.out.c1; have x2 := hX.out.c2; have x3 := hX.out.c3; have x4 := hX.out.c4
            cases hg : decide (GoodS ⟨n0, xs, ys, n1, n2⟩) with
            | false =>
              have HP := Lib.hid (parsed_no HRZ.out (fun h => of_decide_eq_false hg h.1))
              rw [hg] at HGD
              clear hg HTX
              go_upto_region 15 with fail
              first | (go_region_with ((go_at_call 26; refine (HGD.out _ (hD.out.1.rd.below (show Below wr.heap.size wr _ from (by repeat (first | exact Below.refl _ _ | assumption | refine Below.drew ?_ | refine below_drewN ?_ _ | refine Below.alloc ?_ (by first | omega | (simp <;> omega)) _ | refine Below.setCell ?_ (by first | omega | (simp <;> omega)) _ | refine Below.trans ?_ (Below.mono (by assumption) (by first | omega | (simp <;> omega)))))) rfl) (hD.out.2.1.rd.below (show Below wr.heap.size wr _ from (by repeat (first | exact Below.refl _ _ | assumption | refine Below.drew ?_ | refine below_drewN ?_ _ | refine Below.alloc ?_ (by first | omega | (simp <;> omega)) _ | refine Below.setCell ?_ (by first | omega | (simp <;> omega)) _ | refine Below.trans ?_ (Below.mono (by assumption) (by first | omega | (simp <;> omega)))))) rfl)).mono ?_; rintro e w8 ⟨rfl, hb8⟩; replace hR := Lib.hid (hR.out.drew.bel hb8); replace hD := Lib.hid ((show DiaIn wr.drew BS _ _ _ from hD.out.below (show Below wr.heap.size wr wr.drew from (by repeat (first | exact Below.refl _ _ | assumption | refine Below.drew ?_ | refine below_drewN ?_ _ | refine Below.alloc ?_ (by first | omega | (simp <;> omega)) _ | refine Below.setCell ?_ (by first | omega | (simp <;> omega)) _ | refine Below.trans ?_ (Below.mono (by assumption) (by first | omega | (simp <;> omega))))))).below hb8); replace hBw := Lib.hid (below_step (Below.drew hBw.out) hb8); replace hX := Lib.hid (hX.out.drew.bel hb8); clear x0 x1 x2 x3 x4; have x0 := hX.out.c0; have x1 := hX.out.c1; have x2 := hX.out.c2; have x3 := hX.out.c3; have x4 := hX.out.c4; have r0 := hR.out.c0; have r1 := hR.out.c1; have r2 := hR.out.c2; have r3 := hR.out.c3; have r4 := hR.out.c4; have l0 := hR.out.f0; have l1 := hR.out.f1; have l2 := hR.out.f2; have l3 := hR.out.f3; have l4 := hR.out.f4; clear hb8))) | fail
              all_goals
                go_wp2_with fail
                exact bodyPost_ret (v := .tuple #[.agg #[.int .i64 n0, .slice aN xs.length cN, .slice aW ys.length cW, .int .i64 n1, .int .i64 n2], .bool false]) (by simp [results, Tryz.results9, go_sem, r0, r1, r2, r3, r4]; done) rfl (.of ⟨⟨n0, xs, ys, n1, n2⟩, _, _, false, rfl, (((((hD.out.set hRS _).set hRS _).set hRS _).set hRS _).set hRS _).le (Nat.le_of_lt hRS), HP.out, Below.setCell (Below.setCell (Below.setCell (Below.setCell (Below.setCell hBw.out (Nat.le_refl _) _) (Nat.le_refl _) _) (Nat.le_refl _) _) (Nat.le_refl _) _) (Nat.le_refl _) _⟩)
            | true =>
              have hgd := of_decide_eq_true hg
              rw [hg] at HGD
              have HTX2 := Lib.hid (fun w9 h0 h1 => HTX.out w9 h0 h1 hgd)
              have HY := Lib.hid (fun h => parsed_yes (s := s) hgd h)
              have HN := Lib.hid (fun (h : ¬ diaT ⟨n0, xs, ys, n1, n2⟩ = s) => parsed_no HRZ.out (fun h9 => h h9.2))
              obtain ⟨T, hT⟩ : ∃ T, T = diaT ⟨n0, xs, ys, n1, n2⟩ := ⟨_, rfl⟩
              rw [← hT] at HTX2 HY HN
              clear hg HTX hgd hT
              go_upto_region 15 with fail
              replace hX := Lib.hid hX.out.drew; replace hR := Lib.hid hR.out.drew; replace hBw := Lib.hid (Below.drew hBw.out)
              replace hD := Lib.hid (show DiaIn wr.drew BS _ _ _ from hD.out.below (show Below wr.heap.size wr wr.drew from (by repeat (first | exact Below.refl _ _ | assumption | refine Below.drew ?_ | refine below_drewN ?_ _ | refine Below.alloc ?_ (by first | omega | (simp <;> omega)) _ | refine Below.setCell ?_ (by first | omega | (simp <;> omega)) _ | refine Below.trans ?_ (Below.mono (by assumption) (by first | omega | (simp <;> omega)))))))
              clear x0 x1 x2 x3 x4
              have x0 := hX.out.c0; have x1 := hX.out.c1; have x2 := hX.out.c2; have x3 := hX.out.c3; have x4 := hX.out.c4
              have r0 := hR.out.c0; have r1 := hR.out.c1; have r2 := hR.out.c2; have r3 := hR.out.c3; have r4 := hR.out.c4; have l0 := hR.out.f0; have l1 := hR.out.f1; have l2 := hR.out.f2; have l3 := hR.out.f3; have l4 := hR.out.f4
              by_cases ht : T = s
              · have he : (T.toList == s.toList) = true := by rw [ht]; exact beq_self_eq_true _
                have HP := Lib.hid (HY.out ht)
                clear ht HY HN
                refine AnyB.begin (S := (fun w' => w'.cell? ⟨B, 0, none⟩ = some (.int .i64 n0) ∧ w'.cell? ⟨B, 1, none⟩ = some (.slice aN xs.length cN) ∧ w'.cell? ⟨B, 2, none⟩ = some (.slice aW ys.length cW) ∧ w'.cell? ⟨B, 3, none⟩ = some (.int .i64 n1) ∧ w'.cell? ⟨B, 4, none⟩ = some (.int .i64 n2))) [9] (by kernel_rfl) ?_ (fun hHeld0 => ?_)
                · ((try dsimp only); (first | exact ⟨x0, x1, x2, x3, x4⟩))
                refine AnyB.take (i := 0) (oi := _) (v := ?_) (by simp only [List.getElem?_toArray, List.getElem?_cons_zero, List.getElem?_cons_succ]; rfl) (by kernel_rfl) (by kernel_rfl) (by kernel_rfl) (by kernel_rfl) (by kernel_rfl) (by intro _ _ _ h; exact h) (Or.inl ⟨by rfl, ?_⟩) (by assumption) ?_
                rotate_left
                · (intro w hSw; (try dsimp only at hSw); go_simp; (try (with_reducible rfl)))
                try simp only [Act.put, List.setIfInBounds_toArray, List.set_cons_zero, List.set_cons_succ]
                refine AnyB.take (i := 1) (oi := _) (v := ?_) (by simp only [List.getElem?_toArray, List.getElem?_cons_zero, List.getElem?_cons_succ]; rfl) (by kernel_rfl) (by kernel_rfl) (by kernel_rfl) (by kernel_rfl) (by kernel_rfl) (by intro _ _ _ h; exact h) (Or.inl ⟨by rfl, ?_⟩) (by assumption) ?_
                rotate_left
                · (intro w hSw; (try dsimp only at hSw); go_simp; (try (with_reducible rfl)))
                try simp only [Act.put, List.setIfInBounds_toArray, List.set_cons_zero, List.set_cons_succ]
                refine AnyB.each (rs := [2]) (by kernel_rfl) (by simp) ?_
                refine EachB.cons rfl (fun K hK hB => ?_) ?_
                · skip
                  (go_simp; go_at_call 26; refine (HGD.out _ hD.out.1.rd hD.out.2.1.rd).mono ?_; rintro e w8 ⟨rfl, hb8⟩; replace hR := Lib.hid (hR.out.bel hb8); replace hD := Lib.hid (hD.out.below hb8); replace hBw := Lib.hid (below_step hBw.out hb8); replace hX := Lib.hid (hX.out.bel hb8); clear x0 x1 x2 x3 x4 r0 r1 r2 r3 r4 l0 l1 l2 l3 l4; have x0 := hX.out.c0; have x1 := hX.out.c1; have x2 := hX.out.c2; have x3 := hX.out.c3; have x4 := hX.out.c4; have r0 := hR.out.c0; have r1 := hR.out.c1; have r2 := hR.out.c2; have r3 := hR.out.c3; have r4 := hR.out.c4; have l0 := hR.out.f0; have l1 := hR.out.f1; have l2 := hR.out.f2; have l3 := hR.out.f3; have l4 := hR.out.f4; clear hb8; dsimp only)
                  refine hK.out _ _ ?_ (fun hHeld1 => ?_)
                  · ((try dsimp only); (first | exact ⟨x0, x1, x2, x3, x4⟩))
                  clear hB hK K hHeld0
                  refine AnyB.takeQ (i := 3) (oi := _) (v := ?_) (by simp only [List.getElem?_toArray, List.getElem?_cons_zero, List.getElem?_cons_succ]; rfl) (by kernel_rfl) (by kernel_rfl) (by kernel_rfl) (by intro _ _ _ h; exact h) (Or.inl ⟨by rfl, ?_⟩) ?_
                  rotate_left
                  · (intro w hSw; (try dsimp only at hSw); go_simp; (try (with_reducible rfl)))
                  try simp only [Act.put, List.setIfInBounds_toArray, List.set_cons_zero, List.set_cons_succ]
                  refine AnyB.take (i := 4) (oi := _) (v := ?_) (by simp only [List.getElem?_toArray, List.getElem?_cons_zero, List.getElem?_cons_succ]; rfl) (by kernel_rfl) (by kernel_rfl) (by kernel_rfl) (by kernel_rfl) (by kernel_rfl) (by intro _ _ _ h; exact h) (Or.inl ⟨by rfl, ?_⟩) (by assumption) ?_
                  rotate_left
                  · (intro w hSw; (try dsimp only at hSw); go_simp; (try (with_reducible rfl)))
                  try simp only [Act.put, List.setIfInBounds_toArray, List.set_cons_zero, List.set_cons_succ]
                  refine AnyB.takeQ (i := 6) (oi := _) (v := ?_) (by simp only [List.getElem?_toArray, List.getElem?_cons_zero, List.getElem?_cons_succ]; rfl) (by kernel_rfl) (by kernel_rfl) (by kernel_rfl) (by intro _ _ _ h; exact h) (Or.inl ⟨by rfl, ?_⟩) ?_
                  rotate_left
                  · (intro w hSw; (try dsimp only at hSw); go_simp; (try (with_reducible rfl)))
                  try simp only [Act.put, List.setIfInBounds_toArray, List.set_cons_zero, List.set_cons_succ]
                  refine AnyB.each (rs := [5]) (by kernel_rfl) (by simp) ?_
                  refine EachB.cons rfl (fun K hK hB => ?_) ?_
                  · skip
                    (go_simp; go_at_call 27; refine (HTX2.out _ hD.out.1.rd hD.out.2.1.rd).mono ?_; rintro e w9 ⟨rfl, hb9⟩; replace hR := Lib.hid (hR.out.bel hb9); replace hD := Lib.hid (hD.out.below hb9); replace hBw := Lib.hid (below_step hBw.out hb9); replace hX := Lib.hid (hX.out.bel hb9); clear x0 x1 x2 x3 x4 r0 r1 r2 r3 r4 l0 l1 l2 l3 l4; have x0 := hX.out.c0; have x1 := hX.out.c1; have x2 := hX.out.c2; have x3 := hX.out.c3; have x4 := hX.out.c4; have r0 := hR.out.c0; have r1 := hR.out.c1; have r2 := hR.out.c2; have r3 := hR.out.c3; have r4 := hR.out.c4; have l0 := hR.out.f0; have l1 := hR.out.f1; have l2 := hR.out.f2; have l3 := hR.out.f3; have l4 := hR.out.f4; clear hb9; dsimp only)
                    refine hK.out _ _ ?_ (fun hHeld2 => ?_)
                    · ((try dsimp only); (first | exact ⟨x0, x1, x2, x3, x4⟩))
                    clear hB hK K hHeld1
                    refine AnyB.takeQ (i := 7) (oi := _) (v := ?_) (by simp only [List.getElem?_toArray, List.getElem?_cons_zero, List.getElem?_cons_succ]; rfl) (by kernel_rfl) (by kernel_rfl) (by kernel_rfl) (by intro _ _ _ h; exact h) (Or.inl ⟨by rfl, ?_⟩) ?_
                    rotate_left
                    · (intro w hSw; (try dsimp only at hSw); go_simp; (try (with_reducible rfl)))
                    try simp only [Act.put, List.setIfInBounds_toArray, List.set_cons_zero, List.set_cons_succ]
                    refine AnyB.takeQ (i := 8) (oi := _) (v := ?_) (by simp only [List.getElem?_toArray, List.getElem?_cons_zero, List.getElem?_cons_succ]; rfl) (by kernel_rfl) (by kernel_rfl) (by kernel_rfl) (by intro _ _ _ h; exact h) (Or.inl ⟨by rfl, ?_⟩) ?_
                    rotate_left
                    · (intro w hSw; (try dsimp only at hSw); go_simp; (try (with_reducible rfl)))
                    try simp only [Act.put, List.setIfInBounds_toArray, List.set_cons_zero, List.set_cons_succ]
                    refine AnyB.each (rs := [9]) (by kernel_rfl) (by simp) ?_
                    refine EachB.cons rfl (fun K hK hB => ?_) ?_
                    · skip
                      go_simp
                      refine hB.out _ _ rfl ?_
                      clear hB hK K
                      refine AnyB.takeQ (i := 10) (oi := _) (v := ?_) (by simp only [List.getElem?_toArray, List.getElem?_cons_zero, List.getElem?_cons_succ]; rfl) (by kernel_rfl) (by kernel_rfl) (by kernel_rfl) (by intro _ _ _ h; exact h) (Or.inl ⟨by rfl, ?_⟩) ?_
                      rotate_left
                      · (intro w hSw; (try dsimp only at hSw); go_simp; (try (with_reducible rfl)))
                      try simp only [Act.put, List.setIfInBounds_toArray, List.set_cons_zero, List.set_cons_succ]
                      refine AnyB.none (by kernel_rfl) ?_ _
                      go_wp2_with fail
                      exact bodyPost_ret (v := .tuple #[.agg #[.int .i64 n0, .slice aN xs.length cN, .slice aW ys.length cW, .int .i64 n1, .int .i64 n2], .bool true]) (by simp [results, Tryz.results9, go_sem, r0, r1, r2, r3, r4]; done) rfl (.of ⟨⟨n0, xs, ys, n1, n2⟩, _, _, true, rfl, (((((hD.out.set hRS _).set hRS _).set hRS _).set hRS _).set hRS _).le (Nat.le_of_lt hRS), HP.out, Below.setCell (Below.setCell (Below.setCell (Below.setCell (Below.setCell hBw.out (Nat.le_refl _) _) (Nat.le_refl _) _) (Nat.le_refl _) _) (Nat.le_refl _) _) (Nat.le_refl _) _⟩)
                    exact EachB.nil
                  exact EachB.nil
                exact EachB.nil
              · have he : (T.toList == s.toList) = false := by
                  rw [Lib.toList_data, Lib.toList_data, beq_eq_false_iff_ne]
                  exact fun e => ht (bytes_inj e)
                have HP := Lib.hid (HN.out ht)
                clear ht HY HN
                refine AnyB.begin (S := (fun w' => w'.cell? ⟨B, 0, none⟩ = some (.int .i64 n0) ∧ w'.cell? ⟨B, 1, none⟩ = some (.slice aN xs.length cN) ∧ w'.cell? ⟨B, 2, none⟩ = some (.slice aW ys.length cW) ∧ w'.cell? ⟨B, 3, none⟩ = some (.int .i64 n1) ∧ w'.cell? ⟨B, 4, none⟩ = some (.int .i64 n2))) [9] (by kernel_rfl) ?_ (fun hHeld0 => ?_)
                · ((try dsimp only); (first | exact ⟨x0, x1, x2, x3, x4⟩))
                refine AnyB.take (i := 0) (oi := _) (v := ?_) (by simp only [List.getElem?_toArray, List.getElem?_cons_zero, List.getElem?_cons_succ]; rfl) (by kernel_rfl) (by kernel_rfl) (by kernel_rfl) (by kernel_rfl) (by kernel_rfl) (by intro _ _ _ h; exact h) (Or.inl ⟨by rfl, ?_⟩) (by assumption) ?_
                rotate_left
                · (intro w hSw; (try dsimp only at hSw); go_simp; (try (with_reducible rfl)))
                try simp only [Act.put, List.setIfInBounds_toArray, List.set_cons_zero, List.set_cons_succ]
                refine AnyB.take (i := 1) (oi := _) (v := ?_) (by simp only [List.getElem?_toArray, List.getElem?_cons_zero, List.getElem?_cons_succ]; rfl) (by kernel_rfl) (by kernel_rfl) (by kernel_rfl) (by kernel_rfl) (by kernel_rfl) (by intro _ _ _ h; exact h) (Or.inl ⟨by rfl, ?_⟩) (by assumption) ?_
                rotate_left
                · (intro w hSw; (try dsimp only at hSw); go_simp; (try (with_reducible rfl)))
                try simp only [Act.put, List.setIfInBounds_toArray, List.set_cons_zero, List.set_cons_succ]
                refine AnyB.each (rs := [2]) (by kernel_rfl) (by simp) ?_
                refine EachB.cons rfl (fun K hK hB => ?_) ?_
                · skip
                  (go_simp; go_at_call 26; refine (HGD.out _ hD.out.1.rd hD.out.2.1.rd).mono ?_; rintro e w8 ⟨rfl, hb8⟩; replace hR := Lib.hid (hR.out.bel hb8); replace hD := Lib.hid (hD.out.below hb8); replace hBw := Lib.hid (below_step hBw.out hb8); replace hX := Lib.hid (hX.out.bel hb8); clear x0 x1 x2 x3 x4 r0 r1 r2 r3 r4 l0 l1 l2 l3 l4; have x0 := hX.out.c0; have x1 := hX.out.c1; have x2 := hX.out.c2; have x3 := hX.out.c3; have x4 := hX.out.c4; have r0 := hR.out.c0; have r1 := hR.out.c1; have r2 := hR.out.c2; have r3 := hR.out.c3; have r4 := hR.out.c4; have l0 := hR.out.f0; have l1 := hR.out.f1; have l2 := hR.out.f2; have l3 := hR.out.f3; have l4 := hR.out.f4; clear hb8; dsimp only)
                  refine hK.out _ _ ?_ (fun hHeld1 => ?_)
                  · ((try dsimp only); (first | exact ⟨x0, x1, x2, x3, x4⟩))
                  clear hB hK K hHeld0
                  refine AnyB.takeQ (i := 3) (oi := _) (v := ?_) (by simp only [List.getElem?_toArray, List.getElem?_cons_zero, List.getElem?_cons_succ]; rfl) (by kernel_rfl) (by kernel_rfl) (by kernel_rfl) (by intro _ _ _ h; exact h) (Or.inl ⟨by rfl, ?_⟩) ?_
                  rotate_left
                  · (intro w hSw; (try dsimp only at hSw); go_simp; (try (with_reducible rfl)))
                  try simp only [Act.put, List.setIfInBounds_toArray, List.set_cons_zero, List.set_cons_succ]
                  refine AnyB.take (i := 4) (oi := _) (v := ?_) (by simp only [List.getElem?_toArray, List.getElem?_cons_zero, List.getElem?_cons_succ]; rfl) (by kernel_rfl) (by kernel_rfl) (by kernel_rfl) (by kernel_rfl) (by kernel_rfl) (by intro _ _ _ h; exact h) (Or.inl ⟨by rfl, ?_⟩) (by assumption) ?_
                  rotate_left
                  · (intro w hSw; (try dsimp only at hSw); go_simp; (try (with_reducible rfl)))
                  try simp only [Act.put, List.setIfInBounds_toArray, List.set_cons_zero, List.set_cons_succ]
                  refine AnyB.takeQ (i := 6) (oi := _) (v := ?_) (by simp only [List.getElem?_toArray, List.getElem?_cons_zero, List.getElem?_cons_succ]; rfl) (by kernel_rfl) (by kernel_rfl) (by kernel_rfl) (by intro _ _ _ h; exact h) (Or.inl ⟨by rfl, ?_⟩) ?_
                  rotate_left
                  · (intro w hSw; (try dsimp only at hSw); go_simp; (try (with_reducible rfl)))
                  try simp only [Act.put, List.setIfInBounds_toArray, List.set_cons_zero, List.set_cons_succ]
                  refine AnyB.each (rs := [5]) (by kernel_rfl) (by simp) ?_
                  refine EachB.cons rfl (fun K hK hB => ?_) ?_
                  · skip
                    (go_simp; go_at_call 27; refine (HTX2.out _ hD.out.1.rd hD.out.2.1.rd).mono ?_; rintro e w9 ⟨rfl, hb9⟩; replace hR := Lib.hid (hR.out.bel hb9); replace hD := Lib.hid (hD.out.below hb9); replace hBw := Lib.hid (below_step hBw.out hb9); replace hX := Lib.hid (hX.out.bel hb9); clear x0 x1 x2 x3 x4 r0 r1 r2 r3 r4 l0 l1 l2 l3 l4; have x0 := hX.out.c0; have x1 := hX.out.c1; have x2 := hX.out.c2; have x3 := hX.out.c3; have x4 := hX.out.c4; have r0 := hR.out.c0; have r1 := hR.out.c1; have r2 := hR.out.c2; have r3 := hR.out.c3; have r4 := hR.out.c4; have l0 := hR.out.f0; have l1 := hR.out.f1; have l2 := hR.out.f2; have l3 := hR.out.f3; have l4 := hR.out.f4; clear hb9; dsimp only)
                    refine hK.out _ _ ?_ (fun hHeld2 => ?_)
                    · ((try dsimp only); (first | exact ⟨x0, x1, x2, x3, x4⟩))
                    clear hB hK K hHeld1
                    refine AnyB.takeQ (i := 7) (oi := _) (v := ?_) (by simp only [List.getElem?_toArray, List.getElem?_cons_zero, List.getElem?_cons_succ]; rfl) (by kernel_rfl) (by kernel_rfl) (by kernel_rfl) (by intro _ _ _ h; exact h) (Or.inl ⟨by rfl, ?_⟩) ?_
                    rotate_left
                    · (intro w hSw; (try dsimp only at hSw); go_simp; (try (with_reducible rfl)))
                    try simp only [Act.put, List.setIfInBounds_toArray, List.set_cons_zero, List.set_cons_succ]
                    refine AnyB.takeQ (i := 8) (oi := _) (v := ?_) (by simp only [List.getElem?_toArray, List.getElem?_cons_zero, List.getElem?_cons_succ]; rfl) (by kernel_rfl) (by kernel_rfl) (by kernel_rfl) (by intro _ _ _ h; exact h) (Or.inl ⟨by rfl, ?_⟩) ?_
                    rotate_left
                    · (intro w hSw; (try dsimp only at hSw); go_simp; (try (with_reducible rfl)))
                    try simp only [Act.put, List.setIfInBounds_toArray, List.set_cons_zero, List.set_cons_succ]
                    refine AnyB.each (rs := [9]) (by kernel_rfl) (by simp) ?_
                    refine EachB.cons rfl (fun K hK hB => ?_) ?_
                    · skip
                      go_simp
                      refine hB.out _ _ rfl ?_
                      clear hB hK K
                      refine AnyB.takeQ (i := 10) (oi := _) (v := ?_) (by simp only [List.getElem?_toArray, List.getElem?_cons_zero, List.getElem?_cons_succ]; rfl) (by kernel_rfl) (by kernel_rfl) (by kernel_rfl) (by intro _ _ _ h; exact h) (Or.inl ⟨by rfl, ?_⟩) ?_
                      rotate_left
                      · (intro w hSw; (try dsimp only at hSw); go_simp; (try (with_reducible rfl)))
                      try simp only [Act.put, List.setIfInBounds_toArray, List.set_cons_zero, List.set_cons_succ]
                      refine AnyB.none (by kernel_rfl) ?_ _
                      go_wp2_with fail
                      exact bodyPost_ret (v := .tuple #[.agg #[.int .i64 n0, .slice aN xs.length cN, .slice aW ys.length cW, .int .i64 n1, .int .i64 n2], .bool false]) (by simp [results, Tryz.results9, go_sem, r0, r1, r2, r3, r4]; done) rfl (.of ⟨⟨n0, xs, ys, n1, n2⟩, _, _, false, rfl, (((((hD.out.set hRS _).set hRS _).set hRS _).set hRS _).set hRS _).le (Nat.le_of_lt hRS), HP.out, Below.setCell (Below.setCell (Below.setCell (Below.setCell (Below.setCell hBw.out (Nat.le_refl _) _) (Nat.le_refl _) _) (Nat.le_refl _) _) (Nat.le_refl _) _) (Nat.le_refl _) _⟩)
                    exact EachB.nil
                  exact EachB.nil
                exact EachB.nil
end Go.Proofs.YtliophgfgmjhiaaGreatDoor
