/- Vectors of a task: rows of numbers changed in place; the reference's l14Add and l14Set. -/
import Derived.Test.YtgonldkgghikiaaGr0
import Derived.Test.YtgonldkgghikiaaPar2
namespace Go.Proofs.Ytgonldkgghikiaa
set_option linter.unusedSimpArgs false
set_option linter.unusedVariables false
set_option linter.unnecessarySimpa false
set_option maxRecDepth 200000
open Go.ChangeShapes Go.WideShapes Go.ChangeAt Go.RowKit

/-- A row that the call owns. -/
structure Row where (v : Value) (t : TypeId) (sz n : Nat) (cs : List Value)
def Row.own (w : World) (B : Nat) (r : Row) : Prop := w.ownsRow B r.t r.sz r.v r.n r.cs
def Row.off (a b : Row) : Prop := ∀ g, a.v.ownBlock = some g → b.v.ownBlock ≠ some g
theorem Row.off.symm {a b : Row} (h : Row.off a b) : Row.off b a := fun g h1 h2 => h g h2 h1
/-- Rows of the call's own in blocks of their own. -/
structure Fam (w : World) (B : Nat) (R : List Row) : Prop where
  own : ∀ r ∈ R, Row.own w B r
  ap : R.Pairwise Row.off
section
variable {w w' : World} {B : Nat} {R R' : List Row} {r r' : Row}
theorem Fam.call (h : Fam w B R) (hb : Below w.heap.size w w') : Fam w' B R := ⟨fun r hr => own_below (h.own r hr) hb rfl, h.ap⟩
theorem Fam.perm (h : Fam w B R) (hp : R.Perm R') : Fam w B R' :=
  ⟨fun r hr => h.own r (hp.mem_iff.2 hr), (hp.pairwise_iff (fun h => Row.off.symm h)).1 h.ap⟩
theorem Fam.tail (h : Fam w B (r :: R)) : Fam w B R := ⟨fun x hx => h.own x (by simp [hx]), (List.pairwise_cons.1 h.ap).2⟩
theorem Fam.head (h : Fam w B (r :: R)) : Row.own w B r := h.own r (by simp)
/-- One row is changed, in its block or into a new one. -/
theorem Fam.upd (h : Fam w B (r :: R)) (hg : w.grownBy w' r.v.ownBlock) (ho : Row.own w' B r') (hat : r'.v.ownBlock = r.v.ownBlock ∨ r'.v.ownBlock = some w.heap.size) : Fam w' B (r' :: R) := by
  obtain ⟨h1, h2⟩ := List.pairwise_cons.1 h.ap
  refine ⟨fun x hx => ?_, List.pairwise_cons.2 ⟨fun x hx g e e2 => ?_, h2⟩⟩
  · rcases List.mem_cons.1 hx with rfl | hx
    · exact ho
    · exact own_other hg (h.own x (by simp [hx])) (fun g e1 e2 => h1 x hx g e2 e1)
  · rcases hat with e3 | e3
    · rw [e3] at e; exact h1 x hx g e e2
    · rw [e3] at e; injection e with e
      have := (World.ownsRow.lt (h.own x (by simp [hx])) g e2).2
      omega
/-- A row that a call has just made. -/
theorem Fam.add (h : Fam w B R) (hb : Below w.heap.size w w') (ho : Row.own w' w.heap.size r) (hB : B ≤ w.heap.size) : Fam w' B (r :: R) := by
  refine ⟨fun x hx => ?_, List.pairwise_cons.2 ⟨fun x hx g e e2 => ?_, h.ap⟩⟩
  · rcases List.mem_cons.1 hx with rfl | hx
    · exact own_le ho hB
    · exact own_below (h.own x hx) hb rfl
  · have h1 := (World.ownsRow.lt ho g e).1
    have h2 := (World.ownsRow.lt (h.own x hx) g e2).2
    omega
theorem Fam.take_sub (h : Fam w B R) (hs : List.Sublist R' R) : Fam w B R' := ⟨fun x hx => h.own x (hs.subset hx), h.ap.sublist hs⟩
end
def nrow (v : Value) (L : List Nat) : Row := ⟨v, 3, 1, L.length, (ints L).map (Value.int .i64)⟩
theorem nrow_rd {w : World} {B : Nat} {v : Value} {L : List Nat} (h : Row.own w B (nrow v L)) : RdI w v (ints L) := by
  have := Rd.of_own (show w.ownsRow B 3 1 v L.length ((ints L).map (Value.int .i64)) from h)
  unfold RdI; rw [ints_len]; exact this
theorem nrow_N {w : World} {B g n cap : Nat} {L : List Nat} (h : Row.own w B (nrow (.slice (some ⟨g, 0, none⟩) n cap) L)) (hn : n = L.length) : OwnN w B g n cap L := by
  subst hn; exact h
/-- The numbers of a row, the first k of them already added to. -/
def addTo (j t : Nat) (vs : List Nat) (k : Nat) : List Nat := addL j t (vs.take k) ++ vs.drop k
theorem addTo_len (j t : Nat) (vs : List Nat) (k : Nat) : (addTo j t vs k).length = vs.length := by unfold addTo addL; simp; omega
theorem addTo_get {j t : Nat} {vs : List Nat} {k : Nat} (h : k < vs.length) : (addTo j t vs k).getD k 0 = vs.getD k 0 := by
  unfold addTo addL
  simp [List.getD, List.getElem?_append_right, Nat.min_eq_left (Nat.le_of_lt h), h]
theorem addTo_succ {j t : Nat} {vs : List Nat} {k : Nat} (h : k < vs.length) : addTo j t vs (k + 1) = (addTo j t vs k).set k (addV j t (vs.getD k 0)) := by
  have hl : (addL j t (vs.take k)).length = k := by unfold addL; simp; omega
  unfold addTo
  rw [List.set_append_right _ _ (by omega), hl, Nat.sub_self]
  have e1 : vs.drop k = vs[k] :: vs.drop (k + 1) := List.drop_eq_getElem_cons h
  rw [e1, List.set_cons_zero]
  have e2 : addL j t (vs.take (k + 1)) = addL j t (vs.take k) ++ [addV j t (vs.getD k 0)] := by
    unfold addL
    rw [List.take_succ_eq_append_getElem h, List.map_append]
    simp [List.getD, h]
  rw [e2]; simp
theorem addTo_zero (j t : Nat) (vs : List Nat) : addTo j t vs 0 = vs := by simp [addTo, addL]
theorem addTo_all {j t : Nat} {vs : List Nat} {k : Nat} (h : vs.length ≤ k) : addTo j t vs k = addL j t vs := by unfold addTo; rw [List.take_of_length_le h, List.drop_of_length_le h, List.append_nil]
theorem addV_no {j t v : Nat} (h : v.testBit t = false) : addV j t v = v := by unfold addV; rw [h]; rfl
theorem addV_yes {j t v : Nat} (h : v.testBit t = true) : addV j t v = v ^^^ 2 ^ j := by unfold addV; rw [h]; rfl
theorem set_same {L : List Nat} {k : Nat} (h : k < L.length) : L.set k (L.getD k 0) = L := by
  simp [List.getD, h]
theorem pow_31 {j : Nat} (h : j < 5) : 2 ^ j ≤ 16 := by have := Nat.pow_le_pow_right (n := 2) (by omega) (show j ≤ 4 by omega); omega
/-- A row that holds what it held, in its block. -/
theorem grown_refl (w : World) (r : Option Nat) : w.grownBy w r := ⟨rfl, rfl, rfl, Nat.le_refl _, fun _ _ _ => rfl⟩
set_option maxHeartbeats 4000000 in
theorem spec_l14Add_any (B j t : Nat) (v : Value) (vs : List Nat) (w : World) (h : Row.own w B (nrow v vs)) (hs : Sm vs) (hj : j < 5) (ht : t < 5) :
    Calls Try.prog 42 #[v, .int .i64 (j : Int), .int .i64 (t : Int)] w fun e w' => e = .returned (.tuple #[]) ∧ Row.own w' B (nrow v (addL j t vs)) ∧ w.grownBy w' v.ownBlock := by
  by_cases h0 : vs.length = 0
  · have e : vs = [] := List.eq_nil_of_length_eq_zero h0
    subst e
    obtain ⟨a, cap, rfl⟩ : ∃ a cap, v = .slice a 0 cap := own_form h
    have H := Lib.hid h; clear h
    go_enter Try.func42, Try.ntmps42
    go_wp2_with fail
    refine wp_loop_rounds 1 ?_
    rw [rounds_succ]
    go_wp2_with fail
    go_end0
    exact ⟨rfl, H.out, grown_refl _ _⟩
  · obtain ⟨g, cap, rfl⟩ : ∃ g cap, v = .slice (some ⟨g, 0, none⟩) vs.length cap := Go.Joins.ownsRow_form h (by show 0 < vs.length; omega)
    have HS := Lib.hid hs.2
    have hl := hs.1
    have O0 : Hid (OwnN w B g vs.length cap (addTo j t vs 0)) := (show OwnN _ _ _ _ _ _ from by rw [addTo_zero]; exact h)
    clear h hs
    obtain ⟨p1, p2⟩ := pow_small j (by omega)
    have p3 := pow_31 hj
    have hwp : IntKind.i64.wrap ((2 : Int) ^ j) = (2 : Int) ^ j := IntWalk.i64_in _ (by omega)
    go_enter Try.func42, Try.ntmps42
    go_wp2_with fail
    go_loopw [10] (fun i wr => ∃ k : Nat, k ≤ vs.length ∧ i = .int .i64 k ∧ Hid (OwnN wr B g vs.length cap (addTo j t vs k)) ∧ Hid (w.grownBy wr (some g))) (fun i _ => vs.length - (intOf i).toNat)
    case atStart => exact ⟨0, Nat.zero_le _, rfl, O0, (show World.grownBy _ _ _ from grown_refl _ _)⟩
    case round =>
      clear O0
      obtain ⟨k, hk, rfl, hO, hg⟩ := hrel
      by_cases hlt : k < vs.length
      · have i1 : (k : Int) < (vs.length : Int) := by omega
        have ck := own_int_cell hO.out k (by rw [addTo_len]; exact hlt)
        rw [addTo_get hlt] at ck
        have fk := hO.out.frz k
        have HX := Lib.hid (addTo_succ (j := j) (t := t) hlt)
        have hx31 : vs.getD k 0 ≤ 31 := by rw [getD_lt hlt]; exact HS.out _ (List.getElem_mem hlt)
        have hsame := Lib.hid (show (addTo j t vs k).set k (vs.getD k 0) = addTo j t vs k from by rw [← addTo_get (j := j) (t := t) hlt]; exact set_same (by rw [addTo_len]; exact hlt))
        obtain ⟨x, hx⟩ : ∃ x, x = vs.getD k 0 := ⟨_, rfl⟩
        rw [← hx] at ck HX hx31 hsame
        clear hx
        have tb := bit_test x t (by omega)
        cases hb : x.testBit t with
        | false =>
          rw [hb] at tb
          have HN := Lib.hid (show addTo j t vs (k + 1) = addTo j t vs k from by rw [HX.out, addV_no hb, hsame.out])
          clear hb
          go_wp2_with fail
          go_roundw
          case rel => exact ⟨k + 1, by omega, by go_num, (show OwnN _ _ _ _ _ _ from by rw [HN.out]; exact hO.out), hg⟩
          case measure => simp [intOf]; omega
        | true =>
          rw [hb] at tb
          have HN := Lib.hid (show addTo j t vs (k + 1) = (addTo j t vs k).set k (x ^^^ 2 ^ j) from by rw [HX.out, addV_yes hb])
          have hxo := bits_xor x (2 ^ j) (by omega) (by omega)
          rw [show ((2 ^ j : Nat) : Int) = (2 : Int) ^ j from by simp] at hxo
          have S1 := Lib.hid (hO.out.set k (x ^^^ 2 ^ j))
          have G1 := Lib.hid (grown_trans0 hg.out (World.ownsRow.stored (show wr.ownsRow B 3 1 (.slice (some ⟨g, 0, none⟩) vs.length cap) vs.length _ from hO.out) k (.int .i64 ((x ^^^ 2 ^ j : Nat) : Int))).2)
          clear hb hO hg
          go_wp2_with fail
          go_roundw
          case rel => exact ⟨k + 1, by omega, by go_num, (show OwnN _ _ _ _ _ _ from by rw [HN.out]; exact S1.out), G1⟩
          case measure => simp [intOf]; omega
      · have i1 : ¬ (k : Int) < (vs.length : Int) := by omega
        have HE := Lib.hid (addTo_all (j := j) (t := t) (show vs.length ≤ k by omega))
        rw [HE.out] at hO
        go_wp2_with fail
        go_end0
        exact ⟨rfl, (show wr.ownsRow B 3 1 (.slice (some ⟨g, 0, none⟩) vs.length cap) (addL j t vs).length ((ints (addL j t vs)).map (Value.int .i64)) from by rw [show (addL j t vs).length = vs.length from by simp [addL]]; exact hO.out), hg.out⟩
theorem num_at {w : World} {v : Value} {vs : List Nat} (h : RdI w v (ints vs)) : ∃ A c, v = .slice A vs.length c ∧ Hid (∀ k, k < vs.length → ∃ b off, A = some ⟨b, off, none⟩ ∧ b < w.heap.size ∧ w.cell? ⟨b, off + k, none⟩ = some (.int .i64 ((vs.getD k 0 : Nat) : Int))) := by
  by_cases h0 : 0 < vs.length
  · obtain ⟨b, off, cap, rfl, hb, _, _, hc⟩ := rd_low h h0
    exact ⟨_, cap, rfl, show ∀ _, _ from fun k hk => ⟨b, off, rfl, hb, hc k hk⟩⟩
  · have e : vs = [] := List.eq_nil_of_length_eq_zero (by omega)
    subst e
    obtain ⟨A, c, rfl, _⟩ := h.form
    exact ⟨A, c, rfl, show ∀ _, _ from fun k hk => by simp at hk⟩
theorem gSet_take {vs : List Nat} {j k : Nat} {b : Bool} (h : k < vs.length) : gSet (vs.take (k + 1)) j b = gSet (vs.take k) j b ++ if ((vs.getD k 0).testBit j == b) = true then [vs.getD k 0] else [] := by
  unfold gSet
  rw [List.take_succ_eq_append_getElem h, List.filter_append]
  have e : vs.getD k 0 = vs[k] := by simp [List.getD, h]
  rw [e, List.filter_cons]
  split <;> simp_all
theorem gSet_len (vs : List Nat) (j : Nat) (b : Bool) : (gSet vs j b).length ≤ vs.length := List.length_filter_le _ _
theorem nrow_app {w : World} {B : Nat} {v : Value} {L : List Nat} {x : Nat} (h : w.ownsRow B 3 1 v (L.length + 1) ((ints L).map (Value.int .i64) ++ [.int .i64 (x : Int)])) : Row.own w B (nrow v (L ++ [x])) := by
  show w.ownsRow B 3 1 v (L ++ [x]).length _
  rw [show (L ++ [x]).length = L.length + 1 from by simp]
  simpa [ints, nrow] using h
theorem bit_test0g (y k : Nat) (h : y < 9223372036854775808) : (bits .and .i64 ((y : Int) / 2 ^ k) 1 == 0) = !y.testBit k := by
  have h1 := bit_test y k h
  have h2 : bits .and .i64 ((y : Int) / 2 ^ k) 1 = ((y : Int) / 2 ^ k) % 2 := by
    refine bits_and1 _ ?_ ?_
    · have : (0 : Int) ≤ (y : Int) / 2 ^ k := Int.ediv_nonneg (by omega) (Int.le_of_lt (Int.pow_pos (by omega)))
      omega
    · have : (y : Int) / 2 ^ k ≤ (y : Int) := Int.ediv_le_self _ (by omega)
      omega
  rw [h2] at h1 ⊢
  rw [← h1]
  rcases Int.emod_two_eq ((y : Int) / 2 ^ k) with e | e <;> rw [e] <;> rfl
set_option maxHeartbeats 4000000 in
theorem spec_l14Set_1 (j : Nat) (v : Value) (vs : List Nat) (w : World) (h : RdI w v (ints vs)) (hs : Sm vs) (hj : j < 5) :
    Calls Try.prog 41 #[v, .int .i64 (j : Int), .int .i64 1] w fun e w' => ∃ u, e = .returned u ∧ Row.own w' w.heap.size (nrow u (gSet vs j true)) ∧ Below w.heap.size w w' := by
  obtain ⟨j0, hjj, hy0, hy1, hy2⟩ := info_parts info_int
  obtain ⟨A, c, rfl, Hc⟩ : ∃ A c, v = .slice A vs.length c ∧ Hid (∀ k, k < vs.length → ∃ b off, A = some ⟨b, off, none⟩ ∧ b < w.heap.size ∧ w.cell? ⟨b, off + k, none⟩ = some (.int .i64 ((vs.getD k 0 : Nat) : Int))) := num_at h
  have HS := Lib.hid hs.2
  have hl := hs.1
  clear h hs
  go_enter Try.func41, Try.ntmps41
  go_wp2_with fail
  go_loopw [7, 12] (fun so i wr => ∃ (k : Nat) (u : Value), u = so ∧ k ≤ vs.length ∧ i = .int .i64 k ∧ Hid (Row.own wr w.heap.size (nrow u (gSet (vs.take k) j true))) ∧ Hid (Below w.heap.size w wr) ∧ w.heap.size ≤ wr.heap.size) (fun _ i _ => vs.length - (intOf i).toNat)
  case atStart => exact ⟨0, _, rfl, Nat.zero_le _, rfl, (show World.ownsRow _ _ _ _ _ _ _ from World.ownsRow_nil _ _ _ _), (show Below _ _ _ from (by repeat (first | exact Below.refl _ _ | assumption | refine Below.drew ?_ | refine below_drewN ?_ _ | refine Below.alloc ?_ (by first | omega | (simp <;> omega)) _ | refine Below.setCell ?_ (by first | omega | (simp <;> omega)) _ | refine Below.trans ?_ (Below.mono (by assumption) (by first | omega | (simp <;> omega)))))), Nat.le_refl _⟩
  case round =>
    obtain ⟨k, u, rfl, hk, rfl, hO, hB, hsz⟩ := hrel
    by_cases hlt : k < vs.length
    · have i1 : (k : Int) < (vs.length : Int) := by omega
      obtain ⟨b0, off, rfl, hb0, ck⟩ := Hc.out k hlt
      replace ck := (hB.out.cell hb0).trans ck
      have HX := Lib.hid (gSet_take (j := j) (b := true) hlt)
      have hgl := gSet_len (vs.take k) j true
      rw [List.length_take, Nat.min_eq_left (Nat.le_of_lt hlt)] at hgl
      have hx31 : vs.getD k 0 ≤ 31 := by rw [getD_lt hlt]; exact HS.out _ (List.getElem_mem hlt)
      obtain ⟨x, hx⟩ : ∃ x, x = vs.getD k 0 := ⟨_, rfl⟩
      rw [← hx] at ck HX hx31
      clear hx
      have tb := bit_test x j (by omega)
      cases hb : x.testBit j with
      | false =>
        rw [hb] at tb
        have HN := Lib.hid (show gSet (vs.take (k + 1)) j true = gSet (vs.take k) j true from by rw [HX.out, hb]; simp)
        clear hb
        go_wp2_with fail
        go_roundw
        case rel => exact ⟨k + 1, u, rfl, by omega, by go_num, (show Row.own _ _ _ from by rw [HN.out]; exact hO.out), hB, hsz⟩
        case measure => simp [intOf]; omega
      | true =>
        rw [hb] at tb
        have HN := Lib.hid (show gSet (vs.take (k + 1)) j true = gSet (vs.take k) j true ++ [x] from by rw [HX.out, hb]; simp)
        clear hb
        obtain ⟨L, hL⟩ : ∃ L, L = gSet (vs.take k) j true := ⟨_, rfl⟩
        rw [← hL] at hO HN hgl
        clear hL
        have OX := Lib.hid (show (wr.alloc (.cells #[.int .i64 (x : Int)] 3)).ownsRow w.heap.size 3 1 u L.length ((ints L).map (Value.int .i64)) from World.ownsRow.alloc (show wr.ownsRow w.heap.size 3 1 u L.length ((ints L).map (Value.int .i64)) from hO.out) _)
        have hbX := Lib.hid (Below.alloc hB.out hsz (.cells #[.int .i64 (x : Int)] 3))
        go_wp2_with (at_builtin; go_must (refine wpList_append_any _ rfl _ _ 22 rfl w.heap.size 3 j0 (.int .i64 0) 1 8 Try.underlying22 hjj hy0 hy1 hy2 rfl (by decide) _ L.length _ rfl OX.out (wr.heap.size + 1) _ 1 1 [.int .i64 (x : Int)] rfl (one_reads wr x) (one_one _) (by unfold maxLen; omega) (by omega) (by simp; omega) ?_; intro v3 w4 hown3 hg3 hat3; have S4 := Lib.hid (show Row.own w4 w.heap.size (nrow v3 (gSet (vs.take (k + 1)) j true)) from (by rw [HN.out]; exact nrow_app hown3)); have B4 := Lib.hid (grown_below hbX.out OX.out hg3 (Nat.le_refl _) (by simp; omega)); have z4 := hg3.size; (simp at z4); clear hown3 hg3 hat3))
        go_roundw
        case rel => exact ⟨k + 1, v3, rfl, by omega, by go_num, S4, B4, by omega⟩
        case measure => simp [intOf]; omega
    · have i1 : ¬ (k : Int) < (vs.length : Int) := by omega
      rw [List.take_of_length_le (by omega)] at hO
      obtain ⟨aU, cU, rfl⟩ : ∃ a c, u = .slice a (gSet vs j true).length c := own_form hO.out
      go_wp2_with fail
      go_ret
      exact ⟨_, rfl, hO.out, hB.out⟩
set_option maxHeartbeats 4000000 in
theorem spec_l14Set_0 (j : Nat) (v : Value) (vs : List Nat) (w : World) (h : RdI w v (ints vs)) (hs : Sm vs) (hj : j < 5) :
    Calls Try.prog 41 #[v, .int .i64 (j : Int), .int .i64 0] w fun e w' => ∃ u, e = .returned u ∧ Row.own w' w.heap.size (nrow u (gSet vs j false)) ∧ Below w.heap.size w w' := by
  obtain ⟨j0, hjj, hy0, hy1, hy2⟩ := info_parts info_int
  obtain ⟨A, c, rfl, Hc⟩ : ∃ A c, v = .slice A vs.length c ∧ Hid (∀ k, k < vs.length → ∃ b off, A = some ⟨b, off, none⟩ ∧ b < w.heap.size ∧ w.cell? ⟨b, off + k, none⟩ = some (.int .i64 ((vs.getD k 0 : Nat) : Int))) := num_at h
  have HS := Lib.hid hs.2
  have hl := hs.1
  clear h hs
  go_enter Try.func41, Try.ntmps41
  go_wp2_with fail
  go_loopw [7, 12] (fun so i wr => ∃ (k : Nat) (u : Value), u = so ∧ k ≤ vs.length ∧ i = .int .i64 k ∧ Hid (Row.own wr w.heap.size (nrow u (gSet (vs.take k) j false))) ∧ Hid (Below w.heap.size w wr) ∧ w.heap.size ≤ wr.heap.size) (fun _ i _ => vs.length - (intOf i).toNat)
  case atStart => exact ⟨0, _, rfl, Nat.zero_le _, rfl, (show World.ownsRow _ _ _ _ _ _ _ from World.ownsRow_nil _ _ _ _), (show Below _ _ _ from (by repeat (first | exact Below.refl _ _ | assumption | refine Below.drew ?_ | refine below_drewN ?_ _ | refine Below.alloc ?_ (by first | omega | (simp <;> omega)) _ | refine Below.setCell ?_ (by first | omega | (simp <;> omega)) _ | refine Below.trans ?_ (Below.mono (by assumption) (by first | omega | (simp <;> omega)))))), Nat.le_refl _⟩
  case round =>
    obtain ⟨k, u, rfl, hk, rfl, hO, hB, hsz⟩ := hrel
    by_cases hlt : k < vs.length
    · have i1 : (k : Int) < (vs.length : Int) := by omega
      obtain ⟨b0, off, rfl, hb0, ck⟩ := Hc.out k hlt
      replace ck := (hB.out.cell hb0).trans ck
      have HX := Lib.hid (gSet_take (j := j) (b := false) hlt)
      have hgl := gSet_len (vs.take k) j false
      rw [List.length_take, Nat.min_eq_left (Nat.le_of_lt hlt)] at hgl
      have hx31 : vs.getD k 0 ≤ 31 := by rw [getD_lt hlt]; exact HS.out _ (List.getElem_mem hlt)
      obtain ⟨x, hx⟩ : ∃ x, x = vs.getD k 0 := ⟨_, rfl⟩
      rw [← hx] at ck HX hx31
      clear hx
      have tb := bit_test0g x j (by omega)
      cases hb : x.testBit j with
      | true =>
        rw [hb] at tb
        have HN := Lib.hid (show gSet (vs.take (k + 1)) j false = gSet (vs.take k) j false from by rw [HX.out, hb]; simp)
        clear hb
        go_wp2_with fail
        go_roundw
        case rel => exact ⟨k + 1, u, rfl, by omega, by go_num, (show Row.own _ _ _ from by rw [HN.out]; exact hO.out), hB, hsz⟩
        case measure => simp [intOf]; omega
      | false =>
        rw [hb] at tb
        have HN := Lib.hid (show gSet (vs.take (k + 1)) j false = gSet (vs.take k) j false ++ [x] from by rw [HX.out, hb]; simp)
        clear hb
        obtain ⟨L, hL⟩ : ∃ L, L = gSet (vs.take k) j false := ⟨_, rfl⟩
        rw [← hL] at hO HN hgl
        clear hL
        have OX := Lib.hid (show (wr.alloc (.cells #[.int .i64 (x : Int)] 3)).ownsRow w.heap.size 3 1 u L.length ((ints L).map (Value.int .i64)) from World.ownsRow.alloc (show wr.ownsRow w.heap.size 3 1 u L.length ((ints L).map (Value.int .i64)) from hO.out) _)
        have hbX := Lib.hid (Below.alloc hB.out hsz (.cells #[.int .i64 (x : Int)] 3))
        go_wp2_with (at_builtin; go_must (refine wpList_append_any _ rfl _ _ 22 rfl w.heap.size 3 j0 (.int .i64 0) 1 8 Try.underlying22 hjj hy0 hy1 hy2 rfl (by decide) _ L.length _ rfl OX.out (wr.heap.size + 1) _ 1 1 [.int .i64 (x : Int)] rfl (one_reads wr x) (one_one _) (by unfold maxLen; omega) (by omega) (by simp; omega) ?_; intro v3 w4 hown3 hg3 hat3; have S4 := Lib.hid (show Row.own w4 w.heap.size (nrow v3 (gSet (vs.take (k + 1)) j false)) from (by rw [HN.out]; exact nrow_app hown3)); have B4 := Lib.hid (grown_below hbX.out OX.out hg3 (Nat.le_refl _) (by simp; omega)); have z4 := hg3.size; (simp at z4); clear hown3 hg3 hat3))
        go_roundw
        case rel => exact ⟨k + 1, v3, rfl, by omega, by go_num, S4, B4, by omega⟩
        case measure => simp [intOf]; omega
    · have i1 : ¬ (k : Int) < (vs.length : Int) := by omega
      rw [List.take_of_length_le (by omega)] at hO
      obtain ⟨aU, cU, rfl⟩ : ∃ a c, u = .slice a (gSet vs j false).length c := own_form hO.out
      go_wp2_with fail
      go_ret
      exact ⟨_, rfl, hO.out, hB.out⟩
end Go.Proofs.Ytgonldkgghikiaa
