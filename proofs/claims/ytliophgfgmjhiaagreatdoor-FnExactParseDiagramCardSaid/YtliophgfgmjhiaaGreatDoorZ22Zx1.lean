/- The text of a diagram and its reading, plain. -/
import Derived.Test.YtliophgfgmjhiaaGreatDoorZ00M
import Derived.Test.YtliophgfgmjhiaaGreatDoorZ21Lq4
namespace Go.Proofs.YtliophgfgmjhiaaGreatDoor
set_option linter.unusedSimpArgs false
set_option linter.unusedVariables false
set_option linter.unnecessarySimpa false
set_option maxRecDepth 200000
open Go.ChangeShapes Go.WideShapes Go.ChangeAt Go.RowKit

def kindB (a : Int) : UInt8 := if a = 1 then 105 else if a = 2 then 111 else 122
def nodeT (x : E2) : ByteArray := if x.a = 0 then ⟨#[45]⟩ else ⟨#[kindB x.a]⟩ ++ numB x.b.toNat
def markB (h : Bool) : UInt8 := if h = true then 61 else 45
def wireT (x : EW) : ByteArray := numB x.a.toNat ++ ⟨#[markB x.h]⟩ ++ numB x.b.toNat
def intB (n : Int) : ByteArray := if n < 0 then ⟨#[45]⟩ ++ numB (-n).toNat else numB n.toNat
def joinL (ws : List ByteArray) (c : UInt8) : ByteArray := ⟨(Lib.join (ws.map (·.data.toList)) [c]).toArray⟩
def headZ (d : Dia) : ByteArray := numB d.n.toNat ++ ⟨#[59]⟩ ++ numB d.turn.toNat ++ ⟨#[59]⟩ ++ intB d.root ++ ⟨#[59]⟩
def diaT (d : Dia) : ByteArray := headZ d ++ joinL (d.ns.map nodeT) 44 ++ ⟨#[59]⟩ ++ joinL (d.ws.map wireT) 44
def okN (x : E2) : Prop := (x.a = 0 ∧ x.b = 0) ∨ ((1 ≤ x.a ∧ x.a ≤ 3) ∧ 0 ≤ x.b ∧ x.b ≤ 7)
def okW (x : EW) : Prop := (0 ≤ x.a ∧ x.a < 40) ∧ 0 ≤ x.b ∧ x.b < 40
def RN (t : ByteArray) (x : E2) : Prop := ∀ y, okN y → t = nodeT y → x = y
def RW (t : ByteArray) (x : EW) : Prop := ∀ y, okW y → t = wireT y → x = y
def RNum (t : ByteArray) (x : Int) : Prop := ∀ k : Nat, k < 100 → t = numB k → x = (k : Int)
def RInt (t : ByteArray) (x : Int) : Prop := ∀ k : Int, -100 < k → k < 100 → t = intB k → x = k
theorem num_nodig {c : Nat} (h : c < 100) {b : UInt8} (hb : isDig b = false) : b ∉ (numB c).data.toList := by
  have key : ∀ r : Nat, r < 10 → ¬ b = UInt8.ofNat (48 + r) := fun r hr e => by
    rw [e, (dig_small r hr).2] at hb; cases hb
  by_cases h1 : c < 10
  · have k1 := key c h1
    rw [num_small c h1]
    generalize UInt8.ofNat (48 + c) = x at *
    simpa using k1
  · have k1 := key (c / 10) (by omega)
    have k2 := key (c % 10) (by omega)
    rw [num_big c (by omega), num_small (c / 10) (by omega)]
    generalize UInt8.ofNat (48 + c / 10) = x at *
    generalize UInt8.ofNat (48 + c % 10) = y at *
    simp
    exact ⟨k1, k2⟩
theorem app_list (a b : ByteArray) : (a ++ b).data.toList = a.data.toList ++ b.data.toList := by simp
theorem one_list (c : UInt8) : (ByteArray.mk #[c]).data.toList = [c] := rfl
theorem kind_ne (a : Int) : kindB a = 105 ∨ kindB a = 111 ∨ kindB a = 122 := by
  unfold kindB
  split
  · exact .inl rfl
  · split
    · exact .inr (.inl rfl)
    · exact .inr (.inr rfl)
theorem mark_ne (h : Bool) : markB h = 61 ∨ markB h = 45 := by cases h <;> simp [markB]
/-- A node's text holds neither comma nor semicolon. -/
theorem node_no {x : E2} (h : okN x) {c : UInt8} (hc : c = 44 ∨ c = 59) : c ∉ (nodeT x).data.toList := by
  unfold okN at h
  unfold nodeT
  split
  · rcases hc with rfl | rfl <;> decide
  · next h0 =>
    have hd : isDig c = false := by rcases hc with rfl | rfl <;> decide
    have hn := num_nodig (c := x.b.toNat) (by omega) hd
    rw [app_list, one_list, List.mem_append]
    rintro (h1 | h1)
    · have h1 : c = kindB x.a := by simpa using h1
      rcases hc with rfl | rfl <;> rcases kind_ne x.a with e | e | e <;> rw [e] at h1 <;> revert h1 <;> decide
    · exact hn h1
theorem wire_no {x : EW} (h : okW x) {c : UInt8} (hc : c = 44 ∨ c = 59) : c ∉ (wireT x).data.toList := by
  unfold okW at h
  unfold wireT
  have hd : isDig c = false := by rcases hc with rfl | rfl <;> decide
  have hn := num_nodig (c := x.b.toNat) (by omega) hd
  have hm := num_nodig (c := x.a.toNat) (by omega) hd
  rw [app_list, app_list, one_list, List.mem_append, List.mem_append]
  rintro ((h1 | h1) | h1)
  · exact hm h1
  · have h1 : c = markB x.h := by simpa using h1
    rcases hc with rfl | rfl <;> rcases mark_ne x.h with e | e <;> rw [e] at h1 <;> revert h1 <;> decide
  · exact hn h1
theorem int_no {n : Int} (h0 : -100 < n) (h1 : n < 100) {c : UInt8} (hc : c = 44 ∨ c = 59) : c ∉ (intB n).data.toList := by
  have hd : isDig c = false := by rcases hc with rfl | rfl <;> decide
  unfold intB
  split
  · have hn := num_nodig (c := (-n).toNat) (by omega) hd
    rw [app_list, one_list, List.mem_append]
    rintro (h1 | h1)
    · have h1 : c = 45 := by simpa using h1
      rcases hc with rfl | rfl <;> revert h1 <;> decide
    · exact hn h1
  · exact num_nodig (c := n.toNat) (by omega) hd
theorem joinL_list (ws : List ByteArray) (c : UInt8) : (joinL ws c).data.toList = Lib.join (ws.map (·.data.toList)) [c] := by unfold joinL; simp
theorem words_join {ws : List ByteArray} {c : UInt8} (h0 : ws ≠ []) (h : ∀ t ∈ ws, c ∉ t.data.toList) : wordsOf c (joinL ws c) = ws := by
  apply words_inj
  rw [wordsOf_data, joinL_list]
  refine cut_join (fun h9 => h0 (by simpa using h9)) fun w hw => ?_
  obtain ⟨t, ht, rfl⟩ := List.mem_map.1 hw
  exact h t ht
theorem join_no {ws : List ByteArray} {c b : UInt8} (hc : b ≠ c) (h : ∀ t ∈ ws, b ∉ t.data.toList) : b ∉ (joinL ws c).data.toList := by
  rw [joinL_list]
  induction ws with
  | nil => simp [Lib.join]
  | cons x r ih =>
    have ih := ih fun t ht => h t (List.mem_cons_of_mem _ ht)
    have hx := h x (List.mem_cons_self ..)
    cases r with
    | nil => rw [List.map_cons, List.map_nil, Lib.join_one]; exact hx
    | cons y r =>
      have e : Lib.join ((x :: y :: r).map (·.data.toList)) [c] = x.data.toList ++ c :: Lib.join ((y :: r).map (·.data.toList)) [c] := by
        rw [List.map_cons, List.map_cons, Lib.join_cons, Lib.join_cons]
        simp [Lib.joinTail]
      rw [e]
      simp only [List.mem_append, List.mem_cons, not_or]
      exact ⟨hx, hc, ih⟩
theorem good_n {d : Dia} (h : GoodS d) : ∀ x ∈ d.ns, okN x := by
  intro x hx
  obtain ⟨i, hi, rfl⟩ := List.mem_iff_getElem.1 hx
  have h1 := (h.2.2.1 i hi).1
  rw [show d.ns.getD i ⟨0, 0⟩ = d.ns[i] from by simp [List.getD, hi]] at h1
  have h0 := h.1.1
  unfold isN at h1
  unfold okN
  omega
theorem good_w {d : Dia} (h : GoodS d) : ∀ x ∈ d.ws, okW x := by
  intro x hx
  obtain ⟨i, hi, rfl⟩ := List.mem_iff_getElem.1 hx
  have h1 := (h.2.1 i hi).1
  rw [show d.ws.getD i ⟨0, 0, false⟩ = d.ws[i] from by simp [List.getD, hi]] at h1
  have h0 := h.1.2.1
  unfold okW
  omega
theorem good_ns {d : Dia} (h : GoodS d) : d.ns ≠ [] := by
  obtain ⟨h1, _, _, h4⟩ := h
  have := h4 1 (by decide) (by decide) 0 (by decide) (by have := h1.1; omega)
  intro e
  rw [e] at this
  cases this
theorem good_ws {d : Dia} (h : GoodS d) : d.ws ≠ [] := by
  obtain ⟨h1, _, h3, h4⟩ := h
  have hc := h4 1 (by decide) (by decide) 0 (by decide) (by have := h1.1; omega)
  have hm := cnt_pos.2 (show 0 < cntN d.ns 1 0 by omega)
  obtain ⟨i, hi, he⟩ := List.mem_iff_getElem.1 hm
  have h5 := (h3 i hi).2.2
  rw [show d.ns.getD i ⟨0, 0⟩ = ⟨1, 0⟩ from by simp [List.getD, hi, he]] at h5
  have h5 := h5 (.inl rfl)
  intro e
  rw [e] at h5
  cases h5
/-- The five parts of a valid diagram's text. -/
theorem dia_words {d : Dia} (h : GoodS d) : wordsOf 59 (diaT d) = [numB d.n.toNat, numB d.turn.toNat, intB d.root, joinL (d.ns.map nodeT) 44, joinL (d.ws.map wireT) 44] := by
  obtain ⟨h1, h2, h3, h4⟩ := h.1
  have a1 := num_nodig (c := d.n.toNat) (b := 59) (by omega) (by decide)
  have a2 := num_nodig (c := d.turn.toNat) (b := 59) (by omega) (by decide)
  have a3 := int_no (n := d.root) (c := 59) (by omega) (by omega) (.inr rfl)
  have a4 : (59 : UInt8) ∉ (joinL (d.ns.map nodeT) 44).data.toList := join_no (by decide) fun t ht => by
    obtain ⟨x, hx, rfl⟩ := List.mem_map.1 ht
    exact node_no (good_n h x hx) (.inr rfl)
  have a5 : (59 : UInt8) ∉ (joinL (d.ws.map wireT) 44).data.toList := join_no (by decide) fun t ht => by
    obtain ⟨x, hx, rfl⟩ := List.mem_map.1 ht
    exact wire_no (good_w h x hx) (.inr rfl)
  apply words_inj
  rw [wordsOf_data]
  unfold diaT headZ
  simp only [app_list, one_list, List.append_assoc, List.cons_append, List.nil_append]
  rw [cut_app _ a1, cut_app _ a2, cut_app _ a3, cut_app _ a4, cut_none a5]
  rfl
theorem node_words {d : Dia} (h : GoodS d) : wordsOf 44 (joinL (d.ns.map nodeT) 44) = d.ns.map nodeT :=
  words_join (fun e => good_ns h (by simpa using e)) fun t ht => by
    obtain ⟨x, hx, rfl⟩ := List.mem_map.1 ht
    exact node_no (good_n h x hx) (.inl rfl)
theorem wire_words {d : Dia} (h : GoodS d) : wordsOf 44 (joinL (d.ws.map wireT) 44) = d.ws.map wireT :=
  words_join (fun e => good_ws h (by simpa using e)) fun t ht => by
    obtain ⟨x, hx, rfl⟩ := List.mem_map.1 ht
    exact wire_no (good_w h x hx) (.inl rfl)
/-- Lists read out of words. -/
def ReadN (ts : List ByteArray) (xs : List E2) : Prop := xs.length = ts.length ∧ ∀ j, j < ts.length → RN (ts.getD j ⟨#[]⟩) (xs.getD j ⟨0, 0⟩)
def ReadW (ts : List ByteArray) (xs : List EW) : Prop := xs.length = ts.length ∧ ∀ j, j < ts.length → RW (ts.getD j ⟨#[]⟩) (xs.getD j ⟨0, 0, false⟩)
theorem readN_of {xs ys : List E2} (h : ReadN (ys.map nodeT) xs) (hy : ∀ y ∈ ys, okN y) : xs = ys := by
  obtain ⟨hl, h⟩ := h
  rw [List.length_map] at hl h
  refine List.ext_getElem hl fun i h1 h2 => ?_
  have := h i h2 (ys.getD i ⟨0, 0⟩) (by rw [show ys.getD i ⟨0, 0⟩ = ys[i] from by simp [List.getD, h2]]; exact hy _ (List.getElem_mem _)) (by simp [List.getD, h2])
  simpa [List.getD, h1, h2] using this
theorem readW_of {xs ys : List EW} (h : ReadW (ys.map wireT) xs) (hy : ∀ y ∈ ys, okW y) : xs = ys := by
  obtain ⟨hl, h⟩ := h
  rw [List.length_map] at hl h
  refine List.ext_getElem hl fun i h1 h2 => ?_
  have := h i h2 (ys.getD i ⟨0, 0, false⟩) (by rw [show ys.getD i ⟨0, 0, false⟩ = ys[i] from by simp [List.getD, h2]]; exact hy _ (List.getElem_mem _)) (by simp [List.getD, h2])
  simpa [List.getD, h1, h2] using this
/-- What was read out of the parts of a text: where the text is a valid diagram's, that diagram. -/
def ReadD (ps : List ByteArray) (d : Dia) : Prop :=
  RNum (ps.getD 0 ⟨#[]⟩) d.n ∧ RNum (ps.getD 1 ⟨#[]⟩) d.turn ∧ RInt (ps.getD 2 ⟨#[]⟩) d.root ∧ ReadN (wordsOf 44 (ps.getD 3 ⟨#[]⟩)) d.ns ∧ (ps.getD 4 ⟨#[]⟩ ≠ ⟨#[]⟩ → ReadW (wordsOf 44 (ps.getD 4 ⟨#[]⟩)) d.ws)
theorem joinL_ne {ws : List ByteArray} {c : UInt8} (h : wordsOf c (joinL ws c) = ws) (h0 : ∀ t ∈ ws, t ≠ ⟨#[]⟩) : joinL ws c ≠ ⟨#[]⟩ := by
  intro e
  rw [e] at h
  have e2 : wordsOf c ⟨#[]⟩ = [⟨#[]⟩] := rfl
  rw [e2] at h
  exact h0 ⟨#[]⟩ (by rw [← h]; simp) rfl
theorem wireT_ne (x : EW) : wireT x ≠ ⟨#[]⟩ := by
  intro e
  have := congrArg (fun b => b.data.toList.length) e
  unfold wireT at this
  simp only [app_list, one_list, List.length_append] at this
  simp at this
theorem dia_read {d d1 : Dia} {s : ByteArray} (h : GoodS d) (hs : diaT d = s) (hr : ReadD (wordsOf 59 s) d1) : d1 = d := by
  subst hs
  rw [dia_words h] at hr
  obtain ⟨h1, h2, h3, h4⟩ := h.1
  obtain ⟨r0, r1, r2, r3, r4⟩ := hr
  have e0 := r0 d.n.toNat (by omega) rfl
  have e1 := r1 d.turn.toNat (by omega) rfl
  have e2 := r2 d.root (by omega) (by omega) rfl
  have r3 : ReadN (wordsOf 44 (joinL (d.ns.map nodeT) 44)) d1.ns := r3
  rw [node_words h] at r3
  have e3 := readN_of r3 (good_n h)
  have r4 : ReadW (wordsOf 44 (joinL (d.ws.map wireT) 44)) d1.ws := r4 (joinL_ne (wire_words h) fun t ht => by
    obtain ⟨x, hx, rfl⟩ := List.mem_map.1 ht
    exact wireT_ne x)
  rw [wire_words h] at r4
  have e4 := readW_of r4 (good_w h)
  have k0 : d1.n = d.n := by rw [e0]; omega
  have k1 : d1.turn = d.turn := by rw [e1]; omega
  clear r0 r1 r2 r3 r4 e0 e1
  obtain ⟨a1, b1, c1, x1, f1⟩ := d1
  simp only at k0 k1 e2 e3 e4
  subst k0 k1 e2 e3 e4
  rfl
/-- What both sides answer at a text. -/
def Parsed (s : ByteArray) (d : Dia) (q : Bool) : Prop := (q = true ∧ GoodS d ∧ diaT d = s) ∨ (q = false ∧ d = Dia.zero ∧ ∀ d1, GoodS d1 → diaT d1 ≠ s)
/-- A reading of a text. -/
def ReadsZ (s : ByteArray) (d1 : Dia) : Prop := ∀ d, GoodS d → diaT d = s → d1 = d
theorem parsed_yes {s : ByteArray} {d : Dia} (h : GoodS d) (ht : diaT d = s) : Parsed s d true := .inl ⟨rfl, h, ht⟩
theorem parsed_no {s : ByteArray} {d1 : Dia} (hr : ReadsZ s d1) (h : ¬ (GoodS d1 ∧ diaT d1 = s)) : Parsed s Dia.zero false :=
  .inr ⟨rfl, rfl, fun d hd he => h (by rw [hr d hd he]; exact ⟨hd, he⟩)⟩
theorem parsed_none {s : ByteArray} (h : ∀ d, GoodS d → diaT d = s → False) : Parsed s Dia.zero false := .inr ⟨rfl, rfl, fun d hd he => h d hd he⟩
theorem parsed_one {s : ByteArray} {d e : Dia} {q r : Bool} (h1 : Parsed s d q) (h2 : Parsed s e r) (hr : ∃ d1, ReadsZ s d1) : d = e ∧ q = r := by
  obtain ⟨d1, hr⟩ := hr
  rcases h1 with ⟨rfl, g1, t1⟩ | ⟨rfl, rfl, n1⟩ <;> rcases h2 with ⟨rfl, g2, t2⟩ | ⟨rfl, rfl, n2⟩
  · exact ⟨(hr d g1 t1).symm.trans (hr e g2 t2), rfl⟩
  · exact absurd t1 (n2 d g1)
  · exact absurd t2 (n1 e g2)
  · exact ⟨rfl, rfl⟩
end Go.Proofs.YtliophgfgmjhiaaGreatDoor
