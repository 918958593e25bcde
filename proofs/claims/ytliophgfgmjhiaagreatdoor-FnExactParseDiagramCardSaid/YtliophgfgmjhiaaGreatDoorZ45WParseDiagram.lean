/- The walk through the law FnExactParseDiagram. -/
import Derived.Test.YtliophgfgmjhiaaGreatDoorZ30Zya
import Derived.Test.YtliophgfgmjhiaaGreatDoorZ42Zy9
import Derived.Test.YtliophgfgmjhiaaGreatDoorZ44StDiagram
namespace Go.Proofs.YtliophgfgmjhiaaGreatDoor
set_option linter.unusedSimpArgs false
set_option linter.unusedVariables false
set_option linter.unnecessarySimpa false
set_option maxRecDepth 200000
open Go.ChangeShapes Go.WideShapes Go.ChangeAt Go.RowKit

theorem frz_mid {w w' : World} {lo hi b o : Nat} (h : Mid lo hi w w') (hb : b < lo ∨ hi ≤ b) (hl : b < w.heap.size) (hc : w.frozen? ⟨b, o, none⟩ = false) : w'.frozen? ⟨b, o, none⟩ = false := by
  rw [World.frozen?_of_block (w := w) (a := ⟨b, o, none⟩) (h.block b hl hb)]; exact hc
theorem BoxD.mid {w w' : World} {B lo hi : Nat} {n : Int} {v0 v1 : Value} {t r : Int} (h : BoxD w B n v0 v1 t r) (hm : Mid lo hi w w') (hB : B < lo ∨ hi ≤ B) : BoxD w' B n v0 v1 t r :=
  ⟨Mid.cell hm hB h.c0, Mid.cell hm hB h.c1, Mid.cell hm hB h.c2, Mid.cell hm hB h.c3, Mid.cell hm hB h.c4, frz_mid hm hB h.lt h.f0, frz_mid hm hB h.lt h.f1, frz_mid hm hB h.lt h.f2, frz_mid hm hB h.lt h.f3, frz_mid hm hB h.lt h.f4⟩
theorem parsed_len {s : ByteArray} {d : Dia} {q : Bool} (h : Parsed s d q) (hs : s.size ≤ 1048576) : d.ns.length ≤ 40 ∧ d.ws.length ≤ 1048577 := by
  rcases h with ⟨_, hg, ht⟩ | ⟨_, rfl, _⟩
  · refine ⟨hg.1.2.1, ?_⟩
    have h1 := wordsOf_count 44 (joinL (d.ws.map wireT) 44)
    rw [wire_words hg, List.length_map] at h1
    have h2 : (joinL (d.ws.map wireT) 44).size ≤ s.size := wordsOf_size (c := 59) (by rw [← ht, dia_words hg]; simp)
    omega
  · exact ⟨Nat.zero_le _, Nat.zero_le _⟩
theorem rn_ex (t : ByteArray) : ∃ x, RN t x := by
  by_cases hd : t = ⟨#[45]⟩
  · exact ⟨_, by rw [hd]; exact rn_dash⟩
  · by_cases hp : 0 < t.size
    · exact ⟨_, rn_of hp hd⟩
    · exact ⟨⟨0, 0⟩, rn_nil (by omega) _⟩
theorem rw_ex (t : ByteArray) : ∃ x, RW t x := by
  by_cases h1 : (wordsOf 45 t).length = 2
  · exact ⟨_, rw_1 h1⟩
  · by_cases h2 : (wordsOf 61 t).length = 2
    · exact ⟨_, rw_2 h1 h2⟩
    · exact ⟨⟨0, 0, false⟩, rw_3 h1 h2 _⟩
theorem ri_ex (t : ByteArray) : ∃ n, RInt t n := by
  by_cases h : ∃ r : Int, (-100 < r ∧ r < 100) ∧ t = intB r
  · obtain ⟨r, ⟨h0, h1⟩, rfl⟩ := h
    refine ⟨r, fun k h2 h3 he => ?_⟩
    have a := ato_int h0 h1
    rw [he, ato_int h2 h3] at a
    injection a with a
    exact a.symm
  · exact ⟨0, fun k h0 h1 he => absurd ⟨k, ⟨h0, h1⟩, he⟩ h⟩
theorem map_getD {α β : Type} (f : α → β) (L : List α) (j : Nat) (d : β) (e : α) (h : j < L.length) : (L.map f).getD j d = f (L.getD j e) := by simp [List.getD, h]
theorem readsZ_ex (s : ByteArray) : ∃ d1, ReadsZ s d1 := by
  obtain ⟨n2, hn2⟩ := ri_ex ((wordsOf 59 s).getD 2 ⟨#[]⟩)
  let f := fun t => Classical.choose (rn_ex t)
  let g := fun t => Classical.choose (rw_ex t)
  have hf : ∀ t, RN t (f t) := fun t => Classical.choose_spec (rn_ex t)
  have hg : ∀ t, RW t (g t) := fun t => Classical.choose_spec (rw_ex t)
  refine ⟨⟨readG ((wordsOf 59 s).getD 0 ⟨#[]⟩), (wordsOf 44 ((wordsOf 59 s).getD 3 ⟨#[]⟩)).map f, (wordsOf 44 ((wordsOf 59 s).getD 4 ⟨#[]⟩)).map g, readG ((wordsOf 59 s).getD 1 ⟨#[]⟩), n2⟩, reads_of ⟨rnum_read _, rnum_read _, hn2, ⟨List.length_map .., fun j hj => ?_⟩, fun _ => ⟨List.length_map .., fun j hj => ?_⟩⟩⟩
  · show RN _ (((wordsOf 44 ((wordsOf 59 s).getD 3 ⟨#[]⟩)).map f).getD j ⟨0, 0⟩)
    rw [map_getD f _ _ _ ⟨#[]⟩ hj]; exact hf _
  · show RW _ (((wordsOf 44 ((wordsOf 59 s).getD 4 ⟨#[]⟩)).map g).getD j ⟨0, 0, false⟩)
    rw [map_getD g _ _ _ ⟨#[]⟩ hj]; exact hg _
theorem parsed_ex (s : ByteArray) : ∃ d q, Parsed s d q := by
  by_cases h : ∃ d, GoodS d ∧ diaT d = s
  · obtain ⟨d, hg, ht⟩ := h
    exact ⟨d, true, parsed_yes hg ht⟩
  · exact ⟨_, false, parsed_none fun d hg ht => h ⟨d, hg, ht⟩⟩
/-- Both sides answer the same. -/
theorem res_at {s : ByteArray} {w w' : World} {e : Ending} {d : Dia} {q : Bool} (hp : Parsed s d q) (h : ParseRes s w e w') : ∃ v0 v1, e = .returned (.tuple #[.agg #[.int .i64 d.n, v0, v1, .int .i64 d.turn, .int .i64 d.root], .bool q]) ∧ DiaIn w' w.heap.size d v0 v1 ∧ Below w.heap.size w w' := by
  obtain ⟨d2, v0, v1, q2, rfl, hD, hP, hb⟩ := h.out
  obtain ⟨rfl, rfl⟩ := parsed_one hp hP (readsZ_ex s)
  exact ⟨v0, v1, rfl, hD, hb⟩
set_option maxRecDepth 100000 in
set_option maxHeartbeats 4000000 in
theorem walk_FnExactParseDiagram (s : ByteArray) (w : World) (hml : MaxZ w) (hst : Strc w) :
    Calls Tryz.prog 3 #[.string s] w fun e w' => e = .returned (.bool true) ∧ Below w.heap.size w w' := by
  by_cases hs : s.size ≤ 1048576
  · have i0 : ¬ (1048576 : Int) < (s.size : Int) := by omega
    obtain ⟨d, q, hp⟩ := parsed_ex s
    obtain ⟨hl0, hl1⟩ := parsed_len hp hs
    have HS0 := Lib.hid (fun w9 => (spec_ParseDiagram_any s w9 hs).mono fun e w' h => res_at hp h)
    have HI0 := Lib.hid (fun w9 h1 h2 => (impl_ParseDiagram_any s w9 hs h1 h2).mono fun e w' h => res_at hp h)
    clear hp
    have HM := Lib.hid hml
    have HC := Lib.hid hst
    clear hml hst
    go_enter Tryz.func3, Tryz.ntmps3
    go_wp2_with fail
    refine (HS0.out _).mono ?_; rintro e w1 ⟨v0, v1, rfl, hD1, hb1⟩
    obtain ⟨a0, k0, rfl⟩ := hD1.1.forms
    obtain ⟨a1, k1, rfl⟩ := hD1.2.1.forms
    have BB := Lib.hid (show Below w.heap.size w (w1.alloc (.cells #[.int .i64 d.n, .slice a0 d.ns.length k0, .slice a1 d.ws.length k1, .int .i64 d.turn, .int .i64 d.root] 25)) from Below.alloc hb1 hb1.size _)
    have X1 := Lib.hid (BoxD.new w1 d.n (.slice a0 d.ns.length k0) (.slice a1 d.ws.length k1) d.turn d.root)
    have D1 := Lib.hid (show DiaIn (w1.alloc (.cells #[.int .i64 d.n, .slice a0 d.ns.length k0, .slice a1 d.ws.length k1, .int .i64 d.turn, .int .i64 d.root] 25)) w.heap.size d _ _ from hD1.below (show Below w1.heap.size w1 _ from (by repeat (first | exact Below.refl _ _ | assumption | refine Below.drew ?_ | refine below_drewN ?_ _ | refine Below.alloc ?_ (by first | omega | (simp <;> omega)) _ | refine Below.setCell ?_ (by first | omega | (simp <;> omega)) _ | refine Below.trans ?_ (Below.mono (by assumption) (by first | omega | (simp <;> omega)))))))
    have L0 := Lib.hid (fun g hg => (hD1.1.lt g hg).2); have L1 := Lib.hid (fun g hg => (hD1.2.1.lt g hg).2)
    have z1 := hb1.size
    clear hD1 hb1
    go_wp2_with fail
    refine (HI0.out _ (HM.out.call BB.out) (HC.out.call BB.out)).mono ?_; rintro e w2 ⟨u0, u1, rfl, hD2, hb2⟩
    obtain ⟨b0, m0, rfl⟩ := hD2.1.forms
    obtain ⟨b1, m1, rfl⟩ := hD2.2.1.forms
    obtain ⟨B1, hB1⟩ : ∃ B, B = w1.heap.size := ⟨_, rfl⟩
    replace X1 := Lib.hid (X1.out.bel hb2); replace D1 := Lib.hid (D1.out.below hb2); replace BB := Lib.hid (below_step BB.out hb2)
    have z2 : w1.heap.size + 1 ≤ w2.heap.size := by have := hb2.size; simp at this; omega
    have hD2b : DiaIn w2 (w1.heap.size + 1) d (.slice b0 d.ns.length m0) (.slice b1 d.ws.length m1) := hD2.le (by simp)
    rw [← hB1] at X1 L0 L1 z1 z2 hD2b ⊢
    have N0 := Lib.hid (fun g hg => hD2b.1.lt g hg); have N1 := Lib.hid (fun g hg => hD2b.2.1.lt g hg)
    have X2 := Lib.hid (BoxD.new w2 d.n (.slice b0 d.ns.length m0) (.slice b1 d.ws.length m1) d.turn d.root)
    have bX := Lib.hid (show Below w2.heap.size w2 (w2.alloc (.cells #[.int .i64 d.n, .slice b0 d.ns.length m0, .slice b1 d.ws.length m1, .int .i64 d.turn, .int .i64 d.root] 25)) from (by repeat (first | exact Below.refl _ _ | assumption | refine Below.drew ?_ | refine below_drewN ?_ _ | refine Below.alloc ?_ (by first | omega | (simp <;> omega)) _ | refine Below.setCell ?_ (by first | omega | (simp <;> omega)) _ | refine Below.trans ?_ (Below.mono (by assumption) (by first | omega | (simp <;> omega))))))
    replace X1 := Lib.hid (X1.out.bel bX.out); replace D1 := Lib.hid (D1.out.below bX.out)
    have D2 := Lib.hid (hD2b.below bX.out)
    replace BB := Lib.hid (below_step BB.out bX.out)
    have x10 := X1.out.c0; have x11 := X1.out.c1; have x12 := X1.out.c2; have x13 := X1.out.c3; have x14 := X1.out.c4
    clear hD2 hD2b hb2 hB1 bX
    go_wp2_with fail
    refine (laws_eqDiagram_same d _ _ _ _ _ D2.out.1.rd D2.out.2.1.rd D1.out.1.rd D1.out.2.1.rd).mono ?_; rintro e w3 ⟨rfl, hb3⟩
    obtain ⟨B2, hB2⟩ : ∃ B, B = w2.heap.size := ⟨_, rfl⟩
    replace X1 := Lib.hid (X1.out.bel hb3); replace D1 := Lib.hid (D1.out.below hb3); replace X2 := Lib.hid (X2.out.bel hb3); replace D2 := Lib.hid (D2.out.below hb3); replace BB := Lib.hid (below_step BB.out hb3)
    rw [← hB2] at X2 z2 N0 N1 ⊢
    have z3 : B2 + 1 ≤ w3.heap.size := by have := hb3.size; simp at this; omega
    clear hb3 hB2 x10 x11 x12 x13 x14
    have y0 := X2.out.c0; have y1 := X2.out.c1; have y2 := X2.out.c2; have y3 := X2.out.c3; have y4 := X2.out.c4
    go_wp2_with fail
    refine (laws_markDiagram_any _ _ _ _ _ _ _ _ _ _ _ _ D2.out.1 D2.out.2.1 D2.out.2.2 (by omega) (by omega) (by omega) (by omega)).mono ?_; rintro e w4 ⟨rfl, hm0, hm1, hg⟩
    have M4 : Mid (B1 + 1) B2 w3 w4 := hg _ _ (fun g h => N0.out g h) (fun g h => N1.out g h)
    clear hg D2
    replace D1 := Lib.hid (show DiaIn w4 w.heap.size d _ _ from ⟨M4.own D1.out.1 (fun g h => by have := L0.out g h; omega), M4.own D1.out.2.1 (fun g h => by have := L1.out g h; omega), D1.out.2.2⟩)
    replace X1 := Lib.hid (X1.out.mid M4 (by omega)); replace X2 := Lib.hid (X2.out.mid M4 (by omega))
    replace BB := Lib.hid (Below.trans BB.out (M4.below (by omega) (by omega)))
    have z4 : w3.heap.size ≤ w4.heap.size := M4.size
    have P0 := Lib.hid hm0; have P1 := Lib.hid hm1
    clear hm0 hm1 M4 y0 y1 y2 y3 y4
    have y0 := X2.out.c0; have y1 := X2.out.c1; have y2 := X2.out.c2; have y3 := X2.out.c3; have y4 := X2.out.c4
    go_wp2_with fail
    refine (laws_heldDiagram_any _ _ _ _ _ _ _ _ _ (Rd.of_own P0.out) (Rd.of_own P1.out) (by omega) (by omega) (by omega) (by omega)).mono ?_; rintro e w5 ⟨rfl, hb5⟩
    replace X1 := Lib.hid (X1.out.bel hb5); replace D1 := Lib.hid (D1.out.below hb5); replace X2 := Lib.hid (X2.out.bel hb5); replace BB := Lib.hid (below_step BB.out hb5)
    replace P0 := Lib.hid (own_below P0.out hb5 rfl); replace P1 := Lib.hid (own_below P1.out hb5 rfl)
    have z5 : w4.heap.size ≤ w5.heap.size := hb5.size
    have hne : ¬ (1 : Int) + ((d.ns.length * 2 : Nat) : Int) + ((d.ws.length * 3 : Nat) : Int) < 0 := by omega
    clear hb5 y0 y1 y2 y3 y4
    go_wp2_with fail
    refine (HI0.out _ (HM.out.call BB.out) (HC.out.call BB.out)).mono ?_; rintro e w6 ⟨t0, t1, rfl, hD6, hb6⟩
    obtain ⟨e0, l0, rfl⟩ := hD6.1.forms
    obtain ⟨e1, l1, rfl⟩ := hD6.2.1.forms
    replace X1 := Lib.hid (X1.out.bel hb6); replace D1 := Lib.hid (D1.out.below hb6); replace X2 := Lib.hid (X2.out.bel hb6); replace BB := Lib.hid (below_step BB.out hb6)
    replace P0 := Lib.hid (own_below P0.out hb6 rfl); replace P1 := Lib.hid (own_below P1.out hb6 rfl)
    have z6 : w5.heap.size ≤ w6.heap.size := hb6.size
    have bX := Lib.hid (show Below w6.heap.size w6 (w6.alloc (.cells #[.int .i64 d.n, .slice e0 d.ns.length l0, .slice e1 d.ws.length l1, .int .i64 d.turn, .int .i64 d.root] 25)) from (by repeat (first | exact Below.refl _ _ | assumption | refine Below.drew ?_ | refine below_drewN ?_ _ | refine Below.alloc ?_ (by first | omega | (simp <;> omega)) _ | refine Below.setCell ?_ (by first | omega | (simp <;> omega)) _ | refine Below.trans ?_ (Below.mono (by assumption) (by first | omega | (simp <;> omega))))))
    have D3 := Lib.hid (hD6.below bX.out)
    replace X1 := Lib.hid (X1.out.bel bX.out); replace D1 := Lib.hid (D1.out.below bX.out); replace X2 := Lib.hid (X2.out.bel bX.out); replace BB := Lib.hid (below_step BB.out bX.out)
    replace P0 := Lib.hid (own_below P0.out bX.out rfl); replace P1 := Lib.hid (own_below P1.out bX.out rfl)
    have x10 := X1.out.c0; have x11 := X1.out.c1; have x12 := X1.out.c2; have x13 := X1.out.c3; have x14 := X1.out.c4
    clear hD6 hb6 bX
    go_wp2_with fail
    refine (laws_eqDiagram_same d _ _ _ _ _ D3.out.1.rd D3.out.2.1.rd D1.out.1.rd D1.out.2.1.rd).mono ?_; rintro e w7 ⟨rfl, hb7⟩
    replace X2 := Lib.hid (X2.out.bel hb7); replace BB := Lib.hid (below_step BB.out hb7)
    replace P0 := Lib.hid (own_below P0.out hb7 rfl); replace P1 := Lib.hid (own_below P1.out hb7 rfl)
    clear hb7 x10 x11 x12 x13 x14 D3 D1 X1
    have y0 := X2.out.c0; have y1 := X2.out.c1; have y2 := X2.out.c2; have y3 := X2.out.c3; have y4 := X2.out.c4
    go_wp2_with fail
    refine (laws_heldDiagram_any _ _ _ _ _ _ _ _ _ (Rd.of_own P0.out) (Rd.of_own P1.out) (by omega) (by omega) (by omega) (by omega)).mono ?_; rintro e w8 ⟨rfl, hb8⟩
    have B8 := Lib.hid (below_step BB.out hb8)
    clear hb8
    go_wp2_with fail
    go_ret
    exact ⟨rfl, B8.out⟩
  · have i0 : (1048576 : Int) < (s.size : Int) := by omega
    clear hs hml hst
    go_enter Tryz.func3, Tryz.ntmps3
    go_wp2_with fail
    go_ret
    exact ⟨rfl, (by repeat (first | exact Below.refl _ _ | assumption | refine Below.drew ?_ | refine below_drewN ?_ _ | refine Below.alloc ?_ (by first | omega | (simp <;> omega)) _ | refine Below.setCell ?_ (by first | omega | (simp <;> omega)) _ | refine Below.trans ?_ (Below.mono (by assumption) (by first | omega | (simp <;> omega)))))⟩
end Go.Proofs.YtliophgfgmjhiaaGreatDoor
