/- Vectors of a task: rows of numbers changed in place; the reference's l14Add and l14Set. -/
import Derived.Test.YtbcjligkjoimmaaZ14M
import Derived.Test.YtbcjligkjoimmaaZ28Par2
import Derived.Test.YtbcjligkjoimmaaZ10Sl
import Derived.Test.YtbcjligkjoimmaaZ24M
import Derived.BigRegion
import Derived.BigQuiet
import Derived.Test.YtbcjligkjoimmaaZ31Syns
import Derived.Test.YtbcjligkjoimmaaZ25DelT
namespace Go.Proofs.Ytbcjligkjoimmaa
set_option linter.unusedSimpArgs false
set_option linter.unusedVariables false
set_option linter.unnecessarySimpa false
set_option maxRecDepth 200000
open Go.ChangeShapes Go.WideShapes Go.ChangeAt Go.RowKit

/-- A row that the call owns. -/
structure Row where (v : Value) (t : TypeId) (sz n : Nat) (cs : List Value)
def Row.own (w : World) (B : Nat) (r : Row) : Prop := w.ownsRow B r.t r.sz r.v r.n r.cs
def Row.off (a b : Row) : Prop := ∀ g, a.v.ownBlock = some g → b.v.ownBlock ≠ some g
theorem Row.off.symm {a b : Row} (h : Row.off a b) : Row.off b a := fun g h1 h2 => h g h2 h1
/-- Rows of the call's own in blocks of their own. -/
structure Fam (w : World) (B : Nat) (R : List Row) : Prop where
  own : ∀ r ∈ R, Row.own w B r
  ap : R.Pairwise Row.off
section
variable {w w' : World} {B : Nat} {R R' : List Row} {r r' : Row}
theorem Fam.call (h : Fam w B R) (hb : Below w.heap.size w w') : Fam w' B R := ⟨fun r hr => own_below (h.own r hr) hb rfl, h.ap⟩
theorem Fam.perm (h : Fam w B R) (hp : R.Perm R') : Fam w B R' :=
  ⟨fun r hr => h.own r (hp.mem_iff.2 hr), (hp.pairwise_iff (fun h => Row.off.symm h)).1 h.ap⟩
theorem Fam.tail (h : Fam w B (r :: R)) : Fam w B R := ⟨fun x hx => h.own x (by simp [hx]), (List.pairwise_cons.1 h.ap).2⟩
theorem Fam.head (h : Fam w B (r :: R)) : Row.own w B r := h.own r (by simp)
/-- One row is changed, in its block or into a new one. -/
theorem Fam.upd (h : Fam w B (r :: R)) (hg : w.grownBy w' r.v.ownBlock) (ho : Row.own w' B r') (hat : r'.v.ownBlock = r.v.ownBlock ∨ r'.v.ownBlock = some w.heap.size) : Fam w' B (r' :: R) := by
  obtain ⟨h1, h2⟩ := List.pairwise_cons.1 h.ap
  refine ⟨fun x hx => ?_, List.pairwise_cons.2 ⟨fun x hx g e e2 => ?_, h2⟩⟩
  · rcases List.mem_cons.1 hx with rfl | hx
    · exact ho
    · exact own_other hg (h.own x (by simp [hx])) (fun g e1 e2 => h1 x hx g e2 e1)
  · rcases hat with e3 | e3
    · rw [e3] at e; exact h1 x hx g e e2
    · rw [e3] at e; injection e with e
      have := (World.ownsRow.lt (h.own x (by simp [hx])) g e2).2
      omega
/-- A row that a call has just made. -/
theorem Fam.add (h : Fam w B R) (hb : Below w.heap.size w w') (ho : Row.own w' w.heap.size r) (hB : B ≤ w.heap.size) : Fam w' B (r :: R) := by
  refine ⟨fun x hx => ?_, List.pairwise_cons.2 ⟨fun x hx g e e2 => ?_, h.ap⟩⟩
  · rcases List.mem_cons.1 hx with rfl | hx
    · exact own_le ho hB
    · exact own_below (h.own x hx) hb rfl
  · have h1 := (World.ownsRow.lt ho g e).1
    have h2 := (World.ownsRow.lt (h.own x hx) g e2).2
    omega
theorem Fam.take_sub (h : Fam w B R) (hs : List.Sublist R' R) : Fam w B R' := ⟨fun x hx => h.own x (hs.subset hx), h.ap.sublist hs⟩
end
def nrow (v : Value) (L : List Nat) : Row := ⟨v, 3, 1, L.length, (ints L).map (Value.int .i64)⟩
theorem nrow_rd {w : World} {B : Nat} {v : Value} {L : List Nat} (h : Row.own w B (nrow v L)) : RdI w v (ints L) := by
  have := Rd.of_own (show w.ownsRow B 3 1 v L.length ((ints L).map (Value.int .i64)) from h)
  unfold RdI; rw [ints_len]; exact this
theorem nrow_N {w : World} {B g n cap : Nat} {L : List Nat} (h : Row.own w B (nrow (.slice (some ⟨g, 0, none⟩) n cap) L)) (hn : n = L.length) : OwnN w B g n cap L := by
  subst hn; exact h
/-- The numbers of a row, the first k of them already added to. -/
def addTo (j t : Nat) (vs : List Nat) (k : Nat) : List Nat := addL j t (vs.take k) ++ vs.drop k
theorem addTo_len (j t : Nat) (vs : List Nat) (k : Nat) : (addTo j t vs k).length = vs.length := by unfold addTo addL; simp; omega
theorem addTo_get {j t : Nat} {vs : List Nat} {k : Nat} (h : k < vs.length) : (addTo j t vs k).getD k 0 = vs.getD k 0 := by
  unfold addTo addL
  simp [List.getD, List.getElem?_append_right, Nat.min_eq_left (Nat.le_of_lt h), h]
theorem addTo_succ {j t : Nat} {vs : List Nat} {k : Nat} (h : k < vs.length) : addTo j t vs (k + 1) = (addTo j t vs k).set k (addV j t (vs.getD k 0)) := by
  have hl : (addL j t (vs.take k)).length = k := by unfold addL; simp; omega
  unfold addTo
  rw [List.set_append_right _ _ (by omega), hl, Nat.sub_self]
  have e1 : vs.drop k = vs[k] :: vs.drop (k + 1) := List.drop_eq_getElem_cons h
  rw [e1, List.set_cons_zero]
  have e2 : addL j t (vs.take (k + 1)) = addL j t (vs.take k) ++ [addV j t (vs.getD k 0)] := by
    unfold addL
    rw [List.take_succ_eq_append_getElem h, List.map_append]
    simp [List.getD, h]
  rw [e2]; simp
theorem addTo_zero (j t : Nat) (vs : List Nat) : addTo j t vs 0 = vs := by simp [addTo, addL]
theorem addTo_all {j t : Nat} {vs : List Nat} {k : Nat} (h : vs.length ≤ k) : addTo j t vs k = addL j t vs := by unfold addTo; rw [List.take_of_length_le h, List.drop_of_length_le h, List.append_nil]
theorem addV_no {j t v : Nat} (h : v.testBit t = false) : addV j t v = v := by unfold addV; rw [h]; rfl
theorem addV_yes {j t v : Nat} (h : v.testBit t = true) : addV j t v = v ^^^ 2 ^ j := by unfold addV; rw [h]; rfl
theorem set_same {L : List Nat} {k : Nat} (h : k < L.length) : L.set k (L.getD k 0) = L := by
  simp [List.getD, h]
theorem pow_31 {j : Nat} (h : j < 5) : 2 ^ j ≤ 16 := by have := Nat.pow_le_pow_right (n := 2) (by omega) (show j ≤ 4 by omega); omega
/-- A row that holds what it held, in its block. -/
theorem grown_refl (w : World) (r : Option Nat) : w.grownBy w r := ⟨rfl, rfl, rfl, Nat.le_refl _, fun _ _ _ => rfl⟩
set_option maxHeartbeats 4000000 in
theorem spec_l14Add_any (B j t : Nat) (v : Value) (vs : List Nat) (w : World) (h : Row.own w B (nrow v vs)) (hs : Sm vs) (hj : j < 5) (ht : t < 5) :
    Calls Try.prog 47 #[v, .int .i64 (j : Int), .int .i64 (t : Int)] w fun e w' => e = .returned (.tuple #[]) ∧ Row.own w' B (nrow v (addL j t vs)) ∧ w.grownBy w' v.ownBlock := by
  by_cases h0 : vs.length = 0
  · have e : vs = [] := List.eq_nil_of_length_eq_zero h0
    subst e
    obtain ⟨a, cap, rfl⟩ : ∃ a cap, v = .slice a 0 cap := own_form h
    have H := Lib.hid h; clear h
    go_enter Try.func47, Try.ntmps47
    go_wp2_with fail
    refine wp_loop_rounds 1 ?_
    rw [rounds_succ]
    go_wp2_with fail
    go_end0
    exact ⟨rfl, H.out, grown_refl _ _⟩
  · obtain ⟨g, cap, rfl⟩ : ∃ g cap, v = .slice (some ⟨g, 0, none⟩) vs.length cap := Go.Joins.ownsRow_form h (by show 0 < vs.length; omega)
    have HS := Lib.hid hs.2
    have hl := hs.1
    have O0 : Hid (OwnN w B g vs.length cap (addTo j t vs 0)) := (show OwnN _ _ _ _ _ _ from by rw [addTo_zero]; exact h)
    clear h hs
    obtain ⟨p1, p2⟩ := pow_small j (by omega)
    have p3 := pow_31 hj
    have hwp : IntKind.i64.wrap ((2 : Int) ^ j) = (2 : Int) ^ j := IntWalk.i64_in _ (by omega)
    go_enter Try.func47, Try.ntmps47
    go_wp2_with fail
    go_loopw [10] (fun i wr => ∃ k : Nat, k ≤ vs.length ∧ i = .int .i64 k ∧ Hid (OwnN wr B g vs.length cap (addTo j t vs k)) ∧ Hid (w.grownBy wr (some g))) (fun i _ => vs.length - (intOf i).toNat)
    case atStart => exact ⟨0, Nat.zero_le _, rfl, O0, (show World.grownBy _ _ _ from grown_refl _ _)⟩
    case round =>
      clear O0
      obtain ⟨k, hk, rfl, hO, hg⟩ := hrel
      by_cases hlt : k < vs.length
      · have i1 : (k : Int) < (vs.length : Int) := by omega
        have ck := own_int_cell hO.out k (by rw [addTo_len]; exact hlt)
        rw [addTo_get hlt] at ck
        have fk := hO.out.frz k
        have HX := Lib.hid (addTo_succ (j := j) (t := t) hlt)
        have hx31 : vs.getD k 0 ≤ 31 := by rw [getD_lt hlt]; exact HS.out _ (List.getElem_mem hlt)
        have hsame := Lib.hid (show (addTo j t vs k).set k (vs.getD k 0) = addTo j t vs k from by rw [← addTo_get (j := j) (t := t) hlt]; exact set_same (by rw [addTo_len]; exact hlt))
        obtain ⟨x, hx⟩ : ∃ x, x = vs.getD k 0 := ⟨_, rfl⟩
        rw [← hx] at ck HX hx31 hsame
        clear hx
        have tb := bit_test x t (by omega)
        cases hb : x.testBit t with
        | false =>
          rw [hb] at tb
          have HN := Lib.hid (show addTo j t vs (k + 1) = addTo j t vs k from by rw [HX.out, addV_no hb, hsame.out])
          clear hb
          go_wp2_with fail
          go_roundw
          case rel => exact ⟨k + 1, by omega, by go_num, (show OwnN _ _ _ _ _ _ from by rw [HN.out]; exact hO.out), hg⟩
          case measure => simp [intOf]; omega
        | true =>
          rw [hb] at tb
          have HN := Lib.hid (show addTo j t vs (k + 1) = (addTo j t vs k).set k (x ^^^ 2 ^ j) from by rw [HX.out, addV_yes hb])
          have hxo := bits_xor x (2 ^ j) (by omega) (by omega)
          rw [show ((2 ^ j : Nat) : Int) = (2 : Int) ^ j from by simp] at hxo
          have S1 := Lib.hid (hO.out.set k (x ^^^ 2 ^ j))
          have G1 := Lib.hid (grown_trans0 hg.out (World.ownsRow.stored (show wr.ownsRow B 3 1 (.slice (some ⟨g, 0, none⟩) vs.length cap) vs.length _ from hO.out) k (.int .i64 ((x ^^^ 2 ^ j : Nat) : Int))).2)
          clear hb hO hg
          go_wp2_with fail
          go_roundw
          case rel => exact ⟨k + 1, by omega, by go_num, (show OwnN _ _ _ _ _ _ from by rw [HN.out]; exact S1.out), G1⟩
          case measure => simp [intOf]; omega
      · have i1 : ¬ (k : Int) < (vs.length : Int) := by omega
        have HE := Lib.hid (addTo_all (j := j) (t := t) (show vs.length ≤ k by omega))
        rw [HE.out] at hO
        go_wp2_with fail
        go_end0
        exact ⟨rfl, (show wr.ownsRow B 3 1 (.slice (some ⟨g, 0, none⟩) vs.length cap) (addL j t vs).length ((ints (addL j t vs)).map (Value.int .i64)) from by rw [show (addL j t vs).length = vs.length from by simp [addL]]; exact hO.out), hg.out⟩
theorem num_at {w : World} {v : Value} {vs : List Nat} (h : RdI w v (ints vs)) : ∃ A c, v = .slice A vs.length c ∧ Hid (∀ k, k < vs.length → ∃ b off, A = some ⟨b, off, none⟩ ∧ b < w.heap.size ∧ w.cell? ⟨b, off + k, none⟩ = some (.int .i64 ((vs.getD k 0 : Nat) : Int))) := by
  by_cases h0 : 0 < vs.length
  · obtain ⟨b, off, cap, rfl, hb, _, _, hc⟩ := rd_low h h0
    exact ⟨_, cap, rfl, show ∀ _, _ from fun k hk => ⟨b, off, rfl, hb, hc k hk⟩⟩
  · have e : vs = [] := List.eq_nil_of_length_eq_zero (by omega)
    subst e
    obtain ⟨A, c, rfl, _⟩ := h.form
    exact ⟨A, c, rfl, show ∀ _, _ from fun k hk => by simp at hk⟩
theorem gSet_take {vs : List Nat} {j k : Nat} {b : Bool} (h : k < vs.length) : gSet (vs.take (k + 1)) j b = gSet (vs.take k) j b ++ if ((vs.getD k 0).testBit j == b) = true then [vs.getD k 0] else [] := by
  unfold gSet
  rw [List.take_succ_eq_append_getElem h, List.filter_append]
  have e : vs.getD k 0 = vs[k] := by simp [List.getD, h]
  rw [e, List.filter_cons]
  split <;> simp_all
theorem gSet_len (vs : List Nat) (j : Nat) (b : Bool) : (gSet vs j b).length ≤ vs.length := List.length_filter_le _ _
theorem nrow_app {w : World} {B : Nat} {v : Value} {L : List Nat} {x : Nat} (h : w.ownsRow B 3 1 v (L.length + 1) ((ints L).map (Value.int .i64) ++ [.int .i64 (x : Int)])) : Row.own w B (nrow v (L ++ [x])) := by
  show w.ownsRow B 3 1 v (L ++ [x]).length _
  rw [show (L ++ [x]).length = L.length + 1 from by simp]
  simpa [ints, nrow] using h
theorem bit_test0g (y k : Nat) (h : y < 9223372036854775808) : (bits .and .i64 ((y : Int) / 2 ^ k) 1 == 0) = !y.testBit k := by
  have h1 := bit_test y k h
  have h2 : bits .and .i64 ((y : Int) / 2 ^ k) 1 = ((y : Int) / 2 ^ k) % 2 := by
    refine bits_and1 _ ?_ ?_
    · have : (0 : Int) ≤ (y : Int) / 2 ^ k := Int.ediv_nonneg (by omega) (Int.le_of_lt (Int.pow_pos (by omega)))
      omega
    · have : (y : Int) / 2 ^ k ≤ (y : Int) := Int.ediv_le_self _ (by omega)
      omega
  rw [h2] at h1 ⊢
  rw [← h1]
  rcases Int.emod_two_eq ((y : Int) / 2 ^ k) with e | e <;> rw [e] <;> rfl
set_option maxHeartbeats 4000000 in
theorem spec_l14Set_1 (j : Nat) (v : Value) (vs : List Nat) (w : World) (h : RdI w v (ints vs)) (hs : Sm vs) (hj : j < 5) :
    Calls Try.prog 46 #[v, .int .i64 (j : Int), .int .i64 1] w fun e w' => ∃ u, e = .returned u ∧ Row.own w' w.heap.size (nrow u (gSet vs j true)) ∧ Below w.heap.size w w' := by
  obtain ⟨j0, hjj, hy0, hy1, hy2⟩ := info_parts info_int
  obtain ⟨A, c, rfl, Hc⟩ : ∃ A c, v = .slice A vs.length c ∧ Hid (∀ k, k < vs.length → ∃ b off, A = some ⟨b, off, none⟩ ∧ b < w.heap.size ∧ w.cell? ⟨b, off + k, none⟩ = some (.int .i64 ((vs.getD k 0 : Nat) : Int))) := num_at h
  have HS := Lib.hid hs.2
  have hl := hs.1
  clear h hs
  go_enter Try.func46, Try.ntmps46
  go_wp2_with fail
  go_loopw [7, 12] (fun so i wr => ∃ (k : Nat) (u : Value), u = so ∧ k ≤ vs.length ∧ i = .int .i64 k ∧ Hid (Row.own wr w.heap.size (nrow u (gSet (vs.take k) j true))) ∧ Hid (Below w.heap.size w wr) ∧ w.heap.size ≤ wr.heap.size) (fun _ i _ => vs.length - (intOf i).toNat)
  case atStart => exact ⟨0, _, rfl, Nat.zero_le _, rfl, (show World.ownsRow _ _ _ _ _ _ _ from World.ownsRow_nil _ _ _ _), (show Below _ _ _ from (by repeat (first | exact Below.refl _ _ | assumption | refine Below.drew ?_ | refine below_drewN ?_ _ | refine Below.alloc ?_ (by first | omega | (simp <;> omega)) _ | refine Below.setCell ?_ (by first | omega | (simp <;> omega)) _ | refine Below.trans ?_ (Below.mono (by assumption) (by first | omega | (simp <;> omega)))))), Nat.le_refl _⟩
  case round =>
    obtain ⟨k, u, rfl, hk, rfl, hO, hB, hsz⟩ := hrel
    by_cases hlt : k < vs.length
    · have i1 : (k : Int) < (vs.length : Int) := by omega
      obtain ⟨b0, off, rfl, hb0, ck⟩ := Hc.out k hlt
      replace ck := (hB.out.cell hb0).trans ck
      have HX := Lib.hid (gSet_take (j := j) (b := true) hlt)
      have hgl := gSet_len (vs.take k) j true
      rw [List.length_take, Nat.min_eq_left (Nat.le_of_lt hlt)] at hgl
      have hx31 : vs.getD k 0 ≤ 31 := by rw [getD_lt hlt]; exact HS.out _ (List.getElem_mem hlt)
      obtain ⟨x, hx⟩ : ∃ x, x = vs.getD k 0 := ⟨_, rfl⟩
      rw [← hx] at ck HX hx31
      clear hx
      have tb := bit_test x j (by omega)
      cases hb : x.testBit j with
      | false =>
        rw [hb] at tb
        have HN := Lib.hid (show gSet (vs.take (k + 1)) j true = gSet (vs.take k) j true from by rw [HX.out, hb]; simp)
        clear hb
        go_wp2_with fail
        go_roundw
        case rel => exact ⟨k + 1, u, rfl, by omega, by go_num, (show Row.own _ _ _ from by rw [HN.out]; exact hO.out), hB, hsz⟩
        case measure => simp [intOf]; omega
      | true =>
        rw [hb] at tb
        have HN := Lib.hid (show gSet (vs.take (k + 1)) j true = gSet (vs.take k) j true ++ [x] from by rw [HX.out, hb]; simp)
        clear hb
        obtain ⟨L, hL⟩ : ∃ L, L = gSet (vs.take k) j true := ⟨_, rfl⟩
        rw [← hL] at hO HN hgl
        clear hL
        have OX := Lib.hid (show (wr.alloc (.cells #[.int .i64 (x : Int)] 3)).ownsRow w.heap.size 3 1 u L.length ((ints L).map (Value.int .i64)) from World.ownsRow.alloc (show wr.ownsRow w.heap.size 3 1 u L.length ((ints L).map (Value.int .i64)) from hO.out) _)
        have hbX := Lib.hid (Below.alloc hB.out hsz (.cells #[.int .i64 (x : Int)] 3))
        go_wp2_with (at_builtin; go_must (refine wpList_append_any _ rfl _ _ 23 rfl w.heap.size 3 j0 (.int .i64 0) 1 8 Try.underlying23 hjj hy0 hy1 hy2 rfl (by decide) _ L.length _ rfl OX.out (wr.heap.size + 1) _ 1 1 [.int .i64 (x : Int)] rfl (one_reads wr x) (one_one _) (by unfold maxLen; omega) (by omega) (by simp; omega) ?_; intro v3 w4 hown3 hg3 hat3; have S4 := Lib.hid (show Row.own w4 w.heap.size (nrow v3 (gSet (vs.take (k + 1)) j true)) from (by rw [HN.out]; exact nrow_app hown3)); have B4 := Lib.hid (grown_below hbX.out OX.out hg3 (Nat.le_refl _) (by simp; omega)); have z4 := hg3.size; (simp at z4); clear hown3 hg3 hat3))
        go_roundw
        case rel => exact ⟨k + 1, v3, rfl, by omega, by go_num, S4, B4, by omega⟩
        case measure => simp [intOf]; omega
    · have i1 : ¬ (k : Int) < (vs.length : Int) := by omega
      rw [List.take_of_length_le (by omega)] at hO
      obtain ⟨aU, cU, rfl⟩ : ∃ a c, u = .slice a (gSet vs j true).length c := own_form hO.out
      go_wp2_with fail
      go_ret
      exact ⟨_, rfl, hO.out, hB.out⟩
set_option maxHeartbeats 4000000 in
theorem spec_l14Set_0 (j : Nat) (v : Value) (vs : List Nat) (w : World) (h : RdI w v (ints vs)) (hs : Sm vs) (hj : j < 5) :
    Calls Try.prog 46 #[v, .int .i64 (j : Int), .int .i64 0] w fun e w' => ∃ u, e = .returned u ∧ Row.own w' w.heap.size (nrow u (gSet vs j false)) ∧ Below w.heap.size w w' := by
  obtain ⟨j0, hjj, hy0, hy1, hy2⟩ := info_parts info_int
  obtain ⟨A, c, rfl, Hc⟩ : ∃ A c, v = .slice A vs.length c ∧ Hid (∀ k, k < vs.length → ∃ b off, A = some ⟨b, off, none⟩ ∧ b < w.heap.size ∧ w.cell? ⟨b, off + k, none⟩ = some (.int .i64 ((vs.getD k 0 : Nat) : Int))) := num_at h
  have HS := Lib.hid hs.2
  have hl := hs.1
  clear h hs
  go_enter Try.func46, Try.ntmps46
  go_wp2_with fail
  go_loopw [7, 12] (fun so i wr => ∃ (k : Nat) (u : Value), u = so ∧ k ≤ vs.length ∧ i = .int .i64 k ∧ Hid (Row.own wr w.heap.size (nrow u (gSet (vs.take k) j false))) ∧ Hid (Below w.heap.size w wr) ∧ w.heap.size ≤ wr.heap.size) (fun _ i _ => vs.length - (intOf i).toNat)
  case atStart => exact ⟨0, _, rfl, Nat.zero_le _, rfl, (show World.ownsRow _ _ _ _ _ _ _ from World.ownsRow_nil _ _ _ _), (show Below _ _ _ from (by repeat (first | exact Below.refl _ _ | assumption | refine Below.drew ?_ | refine below_drewN ?_ _ | refine Below.alloc ?_ (by first | omega | (simp <;> omega)) _ | refine Below.setCell ?_ (by first | omega | (simp <;> omega)) _ | refine Below.trans ?_ (Below.mono (by assumption) (by first | omega | (simp <;> omega)))))), Nat.le_refl _⟩
  case round =>
    obtain ⟨k, u, rfl, hk, rfl, hO, hB, hsz⟩ := hrel
    by_cases hlt : k < vs.length
    · have i1 : (k : Int) < (vs.length : Int) := by omega
      obtain ⟨b0, off, rfl, hb0, ck⟩ := Hc.out k hlt
      replace ck := (hB.out.cell hb0).trans ck
      have HX := Lib.hid (gSet_take (j := j) (b := false) hlt)
      have hgl := gSet_len (vs.take k) j false
      rw [List.length_take, Nat.min_eq_left (Nat.le_of_lt hlt)] at hgl
      have hx31 : vs.getD k 0 ≤ 31 := by rw [getD_lt hlt]; exact HS.out _ (List.getElem_mem hlt)
      obtain ⟨x, hx⟩ : ∃ x, x = vs.getD k 0 := ⟨_, rfl⟩
      rw [← hx] at ck HX hx31
      clear hx
      have tb := bit_test0g x j (by omega)
      cases hb : x.testBit j with
      | true =>
        rw [hb] at tb
        have HN := Lib.hid (show gSet (vs.take (k + 1)) j false = gSet (vs.take k) j false from by rw [HX.out, hb]; simp)
        clear hb
        go_wp2_with fail
        go_roundw
        case rel => exact ⟨k + 1, u, rfl, by omega, by go_num, (show Row.own _ _ _ from by rw [HN.out]; exact hO.out), hB, hsz⟩
        case measure => simp [intOf]; omega
      | false =>
        rw [hb] at tb
        have HN := Lib.hid (show gSet (vs.take (k + 1)) j false = gSet (vs.take k) j false ++ [x] from by rw [HX.out, hb]; simp)
        clear hb
        obtain ⟨L, hL⟩ : ∃ L, L = gSet (vs.take k) j false := ⟨_, rfl⟩
        rw [← hL] at hO HN hgl
        clear hL
        have OX := Lib.hid (show (wr.alloc (.cells #[.int .i64 (x : Int)] 3)).ownsRow w.heap.size 3 1 u L.length ((ints L).map (Value.int .i64)) from World.ownsRow.alloc (show wr.ownsRow w.heap.size 3 1 u L.length ((ints L).map (Value.int .i64)) from hO.out) _)
        have hbX := Lib.hid (Below.alloc hB.out hsz (.cells #[.int .i64 (x : Int)] 3))
        go_wp2_with (at_builtin; go_must (refine wpList_append_any _ rfl _ _ 23 rfl w.heap.size 3 j0 (.int .i64 0) 1 8 Try.underlying23 hjj hy0 hy1 hy2 rfl (by decide) _ L.length _ rfl OX.out (wr.heap.size + 1) _ 1 1 [.int .i64 (x : Int)] rfl (one_reads wr x) (one_one _) (by unfold maxLen; omega) (by omega) (by simp; omega) ?_; intro v3 w4 hown3 hg3 hat3; have S4 := Lib.hid (show Row.own w4 w.heap.size (nrow v3 (gSet (vs.take (k + 1)) j false)) from (by rw [HN.out]; exact nrow_app hown3)); have B4 := Lib.hid (grown_below hbX.out OX.out hg3 (Nat.le_refl _) (by simp; omega)); have z4 := hg3.size; (simp at z4); clear hown3 hg3 hat3))
        go_roundw
        case rel => exact ⟨k + 1, v3, rfl, by omega, by go_num, S4, B4, by omega⟩
        case measure => simp [intOf]; omega
    · have i1 : ¬ (k : Int) < (vs.length : Int) := by omega
      rw [List.take_of_length_le (by omega)] at hO
      obtain ⟨aU, cU, rfl⟩ : ∃ a c, u = .slice a (gSet vs j false).length c := own_form hO.out
      go_wp2_with fail
      go_ret
      exact ⟨_, rfl, hO.out, hB.out⟩
end Go.Proofs.Ytbcjligkjoimmaa
namespace Go.Proofs.Ytbcjligkjoimmaa
set_option linter.unusedSimpArgs false
set_option linter.unusedVariables false
set_option linter.unnecessarySimpa false
set_option maxRecDepth 200000
open Go.ChangeShapes Go.WideShapes Go.ChangeAt Go.RowKit

theorem Fam.swap {w : World} {B : Nat} {a b : Row} {R : List Row} (h : Fam w B (a :: b :: R)) : Fam w B (b :: a :: R) := h.perm (List.Perm.swap b a R)
theorem nrow_nil_own (w : World) (B : Nat) (v : Value) (h : w.ownsRow B 3 1 v 0 []) : Row.own w B (nrow v []) := h
set_option maxHeartbeats 8000000 in
theorem impl_split_any (j : Nat) (v : Value) (vs : List Nat) (w : World) (h : RdI w v (ints vs)) (hs : Sm vs) (hj : j < 5) :
    Calls Try.prog 65 #[v, .int .i64 (j : Int)] w fun e w' => ∃ u1 u2, e = .returned (.tuple #[u1, u2]) ∧ Fam w' w.heap.size [nrow u1 (gSet vs j true), nrow u2 (gSet vs j false)] ∧ Below w.heap.size w w' := by
  obtain ⟨j0, hjj, hy0, hy1, hy2⟩ := info_parts info_int
  obtain ⟨A, c, rfl, Hc⟩ := num_at h
  have HS := Lib.hid hs.2
  have hl := hs.1
  clear h hs
  have F0 : Hid (Fam ((w.alloc (.cells #[] 3)).alloc (.cells #[] 3)) w.heap.size [nrow (.slice (some ⟨w.heap.size, 0, none⟩) 0 0) (gSet (vs.take 0) j true), nrow (.slice (some ⟨w.heap.size + 1, 0, none⟩) 0 0) (gSet (vs.take 0) j false)]) := by
    have o1 := own_lit0 (α := Int) (f := fun _ => []) (sz := 1) w w.heap.size 3 w.heap.size rfl (Nat.le_refl _)
    have o2 := own_lit0 (α := Int) (f := fun _ => []) (sz := 1) (w.alloc (.cells #[] 3)) w.heap.size 3 (w.heap.size + 1) (by simp) (by omega)
    refine (show Fam _ _ _ from ⟨fun r hr => ?_, ?_⟩)
    · simp only [List.mem_cons, List.not_mem_nil, or_false] at hr
      rcases hr with rfl | rfl
      · exact own_below o1 (show Below (w.alloc (.cells #[] 3)).heap.size (w.alloc (.cells #[] 3)) ((w.alloc (.cells #[] 3)).alloc (.cells #[] 3)) from Below.alloc (Below.refl _ _) (Nat.le_refl _) _) rfl
      · exact o2
    · rw [List.pairwise_cons]
      refine ⟨fun x hx g e1 e2 => ?_, List.pairwise_singleton _ _⟩
      simp only [List.mem_singleton] at hx
      subst hx
      have h1 : w.heap.size = g := by simpa [nrow, Value.ownBlock] using e1
      have h2 : w.heap.size + 1 = g := by simpa [nrow, Value.ownBlock] using e2
      omega
  have B0 : Hid (Below w.heap.size w ((w.alloc (.cells #[] 3)).alloc (.cells #[] 3))) := (show Below _ _ _ from (by repeat (first | exact Below.refl _ _ | assumption | refine Below.drew ?_ | refine below_drewN ?_ _ | refine Below.alloc ?_ (by first | omega | (simp <;> omega)) _ | refine Below.setCell ?_ (by first | omega | (simp <;> omega)) _ | refine Below.trans ?_ (Below.mono (by assumption) (by first | omega | (simp <;> omega))))))
  go_enter Try.func65, Try.ntmps65
  go_wp2_with fail
  go_loopw [6, 7, 14] (fun s1 s2 i wr => ∃ (k : Nat) (u1 u2 : Value), u1 = s1 ∧ u2 = s2 ∧ k ≤ vs.length ∧ i = .int .i64 k ∧ Hid (Fam wr w.heap.size [nrow u1 (gSet (vs.take k) j true), nrow u2 (gSet (vs.take k) j false)]) ∧ Hid (Below w.heap.size w wr) ∧ w.heap.size ≤ wr.heap.size) (fun _ _ i _ => vs.length - (intOf i).toNat)
  case atStart => exact ⟨0, _, _, rfl, rfl, Nat.zero_le _, rfl, F0, B0, B0.out.size⟩
  case round =>
    clear F0 B0
    obtain ⟨k, u1, u2, rfl, rfl, hk, rfl, hF, hB, hsz⟩ := hrel
    by_cases hlt : k < vs.length
    · have i1 : (k : Int) < (vs.length : Int) := by omega
      have j2 : (0 : Int) ≤ (j : Int) := by omega
      obtain ⟨b0, off, rfl, hb0, ck⟩ := Hc.out k hlt
      replace ck := (hB.out.cell hb0).trans ck
      have HX := Lib.hid (gSet_take (j := j) (b := true) hlt)
      have HY := Lib.hid (gSet_take (j := j) (b := false) hlt)
      have hgl := gSet_len (vs.take k) j true
      have hgm := gSet_len (vs.take k) j false
      rw [List.length_take, Nat.min_eq_left (Nat.le_of_lt hlt)] at hgl hgm
      have hx31 : vs.getD k 0 ≤ 31 := by rw [getD_lt hlt]; exact HS.out _ (List.getElem_mem hlt)
      obtain ⟨x, hx⟩ : ∃ x, x = vs.getD k 0 := ⟨_, rfl⟩
      rw [← hx] at ck HX HY hx31
      clear hx
      have tb := bit_test x j (by omega)
      have FX := Lib.hid (hF.out.call (show Below wr.heap.size wr (wr.alloc (.cells #[.int .i64 (x : Int)] 3)) from (by repeat (first | exact Below.refl _ _ | assumption | refine Below.drew ?_ | refine below_drewN ?_ _ | refine Below.alloc ?_ (by first | omega | (simp <;> omega)) _ | refine Below.setCell ?_ (by first | omega | (simp <;> omega)) _ | refine Below.trans ?_ (Below.mono (by assumption) (by first | omega | (simp <;> omega)))))))
      have hbX := Lib.hid (Below.alloc hB.out hsz (.cells #[.int .i64 (x : Int)] 3))
      obtain ⟨L1, hL1⟩ : ∃ L, L = gSet (vs.take k) j true := ⟨_, rfl⟩
      obtain ⟨L2, hL2⟩ : ∃ L, L = gSet (vs.take k) j false := ⟨_, rfl⟩
      rw [← hL1] at FX HX hgl; rw [← hL2] at FX HY hgm
      clear hL1 hL2
      have hb1 : w.heap.size ≤ (wr.alloc (.cells #[.int .i64 (x : Int)] 3)).heap.size := by simp; omega
      cases hb : x.testBit j with
      | true =>
        rw [hb] at tb
        have H1 := Lib.hid (show gSet (vs.take (k + 1)) j true = L1 ++ [x] from by rw [HX.out, hb]; simp)
        have H2 := Lib.hid (show gSet (vs.take (k + 1)) j false = L2 from by rw [HY.out, hb]; simp)
        clear hb
        go_wp2_with (at_builtin; go_must (refine wpList_append_any _ rfl _ _ 23 rfl w.heap.size 3 j0 (.int .i64 0) 1 8 Try.underlying23 hjj hy0 hy1 hy2 rfl (by decide) _ L1.length _ rfl FX.out.head (wr.heap.size + 1) _ 1 1 [.int .i64 (x : Int)] rfl (one_reads wr x) (one_one _) (by unfold maxLen; omega) (by omega) hb1 ?_; intro v3 w4 hown3 hg3 hat3; have B4 := Lib.hid (grown_below hbX.out FX.out.head hg3 (Nat.le_refl _) hb1); have F4 := Lib.hid (show Fam w4 w.heap.size [nrow v3 (gSet (vs.take (k + 1)) j true), nrow u2 (gSet (vs.take (k + 1)) j false)] from (by rw [H1.out, H2.out]; exact FX.out.upd hg3 (nrow_app hown3) hat3)); have z4 := hg3.size; clear hown3 hg3 hat3))
        go_roundw
        case rel => exact ⟨k + 1, v3, u2, rfl, rfl, by omega, by go_num, F4, B4, by omega⟩
        case measure => simp [intOf]; omega
      | false =>
        rw [hb] at tb
        have H1 := Lib.hid (show gSet (vs.take (k + 1)) j true = L1 from by rw [HX.out, hb]; simp)
        have H2 := Lib.hid (show gSet (vs.take (k + 1)) j false = L2 ++ [x] from by rw [HY.out, hb]; simp)
        clear hb
        replace FX := Lib.hid FX.out.swap
        go_wp2_with (at_builtin; go_must (refine wpList_append_any _ rfl _ _ 23 rfl w.heap.size 3 j0 (.int .i64 0) 1 8 Try.underlying23 hjj hy0 hy1 hy2 rfl (by decide) _ L2.length _ rfl FX.out.head (wr.heap.size + 1) _ 1 1 [.int .i64 (x : Int)] rfl (one_reads wr x) (one_one _) (by unfold maxLen; omega) (by omega) hb1 ?_; intro v3 w4 hown3 hg3 hat3; have B4 := Lib.hid (grown_below hbX.out FX.out.head hg3 (Nat.le_refl _) hb1); have F4 := Lib.hid (show Fam w4 w.heap.size [nrow u1 (gSet (vs.take (k + 1)) j true), nrow v3 (gSet (vs.take (k + 1)) j false)] from (by rw [H1.out, H2.out]; exact (FX.out.upd hg3 (nrow_app hown3) hat3).swap)); have z4 := hg3.size; clear hown3 hg3 hat3))
        go_roundw
        case rel => exact ⟨k + 1, u1, v3, rfl, rfl, by omega, by go_num, F4, B4, by omega⟩
        case measure => simp [intOf]; omega
    · have i1 : ¬ (k : Int) < (vs.length : Int) := by omega
      rw [List.take_of_length_le (by omega)] at hF
      obtain ⟨a1, c1, rfl⟩ : ∃ a c, u1 = .slice a (gSet vs j true).length c := own_form hF.out.head
      obtain ⟨a2, c2, rfl⟩ : ∃ a c, u2 = .slice a (gSet vs j false).length c := own_form hF.out.swap.head
      go_wp2_with fail
      go_ret2
      exact ⟨_, _, rfl, hF.out, hB.out⟩
theorem inAll1_any (jb j : Nat) (vs : List Nat) (w : World) (hc : w.cell? ⟨jb, 0, none⟩ = some (.int .i64 (j : Int))) (hs : Sm vs) (hj : j < 5) :
    PredB 90 #[.pointer (some ⟨jb, 0, none⟩)] (Value.int .i64) (fun z => !z.toNat.testBit j) (ints vs) w := by
  intro W z hz hb
  obtain ⟨x, hx, rfl⟩ := List.mem_map.1 hz
  have hc' := below_cell hb rfl hc
  have hx31 := hs.2 x hx
  have tb := bit_test0g x j (by omega)
  have hmn : min j 64 = j := by omega
  have j2 : (0 : Int) ≤ (j : Int) := by omega
  clear hc hb hz hx
  show Calls Try.prog 90 #[.int .i64 (x : Int), .pointer (some ⟨jb, 0, none⟩)] W _
  go_enter Try.func90, Try.ntmps90
  go_wp2_with fail
  go_ret
  exact ⟨ret_bool (by simp), (by repeat (first | exact Below.refl _ _ | assumption | refine Below.drew ?_ | refine below_drewN ?_ _ | refine Below.alloc ?_ (by first | omega | (simp <;> omega)) _ | refine Below.setCell ?_ (by first | omega | (simp <;> omega)) _ | refine Below.trans ?_ (Below.mono (by assumption) (by first | omega | (simp <;> omega)))))⟩
theorem inAll_eq (vs : List Nat) (j : Nat) : (!((ints vs).any fun z => !z.toNat.testBit j)) = inAllB vs j := by
  unfold inAllB ints
  rw [List.any_map]
  simp [List.not_any_eq_all_not, Function.comp_def]
set_option maxHeartbeats 4000000 in
theorem impl_inAll_any (j : Nat) (v : Value) (vs : List Nat) (w : World) (h : RdI w v (ints vs)) (hs : Sm vs) (hj : j < 5) :
    Calls Try.prog 62 #[v, .int .i64 (j : Int)] w fun e w' => e = .returned (.bool (inAllB vs j)) ∧ Below w.heap.size w w' := by
  have hmf : ∀ (fn : Fn) (first cap : Array Value) (w : World), (Instr.makeFunc fn first cap).run Try.prog w = .ok (.func fn first cap) w := fun _ _ _ _ => rfl
  have Eg := Lib.hid (enters_of Try.func90 (by kernel_rfl) rfl)
  have H := Lib.hid h
  obtain ⟨A, c, rfl, _⟩ := h.form
  rw [ints_len] at *
  have c0 : (w.alloc (.cells #[.int .i64 (j : Int)] 3)).cell? ⟨w.heap.size, 0, none⟩ = some (.int .i64 (j : Int)) := (by repeat (first | (refine Eq.trans (World.cell?_alloc_at _ _ _ _ ?hh) ?_; (case hh => (simp; done)); rfl) | refine cell_alloc_keep _ ?_))
  have HP := Lib.hid (inAll1_any w.heap.size j vs _ c0 hs hj)
  clear h hs c0
  go_enter Try.func62, Try.ntmps62
  go_wp2_with fail
  refine (slices_ContainsFunc_ints _ _ _ Eg.out _ (ints vs) _ (Rd.below H.out (show Below w.heap.size w _ from (by repeat (first | exact Below.refl _ _ | assumption | refine Below.drew ?_ | refine below_drewN ?_ _ | refine Below.alloc ?_ (by first | omega | (simp <;> omega)) _ | refine Below.setCell ?_ (by first | omega | (simp <;> omega)) _ | refine Below.trans ?_ (Below.mono (by assumption) (by first | omega | (simp <;> omega)))))) rfl) HP.out).mono ?_; rintro e w1 ⟨rfl, hb1⟩
  have bw := Lib.hid (show Below w.heap.size w w1 from (by repeat (first | exact Below.refl _ _ | assumption | refine Below.drew ?_ | refine below_drewN ?_ _ | refine Below.alloc ?_ (by first | omega | (simp <;> omega)) _ | refine Below.setCell ?_ (by first | omega | (simp <;> omega)) _ | refine Below.trans ?_ (Below.mono (by assumption) (by first | omega | (simp <;> omega))))))
  clear hb1
  go_wp2_with fail
  go_ret
  exact ⟨ret_bool (inAll_eq vs j), bw.out⟩
end Go.Proofs.Ytbcjligkjoimmaa
namespace Go.Proofs.Ytbcjligkjoimmaa
set_option linter.unusedSimpArgs false
set_option linter.unusedVariables false
set_option linter.unnecessarySimpa false
set_option maxRecDepth 200000
open Go.ChangeShapes Go.WideShapes Go.ChangeAt Go.RowKit

theorem gIm_ends (vs : List Nat) (fm k : Nat) : -1 ≤ (gIm vs fm k).2 ∧ ((gIm vs fm k).2 ≤ (vs.length : Int) ∨ (gIm vs fm k).2 = -1) := by
  induction k with
  | zero => exact ⟨Int.le_refl _, .inr rfl⟩
  | succ k ih =>
    rw [gIm_succ]
    split
    · unfold gB
      split
      · have h1 := gSet_len vs k true
        have h2 := gSet_len vs k false
        unfold gMost
        dsimp only
        exact ⟨by omega, .inl (by omega)⟩
      · exact ih
    · exact ih
set_option maxHeartbeats 8000000 in
theorem impl_branchOn_any (v : Value) (vs : List Nat) (fm : Nat) (tg : Int) (w : World) (h : RdI w v (ints vs)) (hs : Sm vs) (hf : fm < 32) :
    Calls Try.prog 64 #[.agg #[v, .int .i64 (fm : Int), .int .i64 tg]] w fun e w' => e = .returned (.int .i64 (gBest vs fm)) ∧ Below w.heap.size w w' := by
  have H := Lib.hid h
  have HS := Lib.hid hs
  have hl := hs.1
  obtain ⟨A, c, rfl, _⟩ := h.form
  rw [ints_len] at *
  clear h hs
  go_enter Try.func64, Try.ntmps64
  go_wp2_with fail
  have C0 := Lib.hid (fun W (hb : Below w.heap.size w W) => hb)
  have K0 : (w.alloc (.cells #[.slice A vs.length c, .int .i64 (fm : Int), .int .i64 tg] 98)).cell? ⟨w.heap.size, 0, none⟩ = some (.slice A vs.length c) := (by repeat (first | (refine Eq.trans (World.cell?_alloc_at _ _ _ _ ?hh) ?_; (case hh => (simp; done)); rfl) | refine cell_alloc_keep _ ?_))
  have K1 : (w.alloc (.cells #[.slice A vs.length c, .int .i64 (fm : Int), .int .i64 tg] 98)).cell? ⟨w.heap.size, 1, none⟩ = some (.int .i64 (fm : Int)) := (by repeat (first | (refine Eq.trans (World.cell?_alloc_at _ _ _ _ ?hh) ?_; (case hh => (simp; done)); rfl) | refine cell_alloc_keep _ ?_))
  have B0 : Hid (Below (w.heap.size + 1) (w.alloc (.cells #[.slice A vs.length c, .int .i64 (fm : Int), .int .i64 tg] 98)) (w.alloc (.cells #[.slice A vs.length c, .int .i64 (fm : Int), .int .i64 tg] 98))) := (show Below _ _ _ from Below.refl _ _)
  have HK0 := Lib.hid K0; have HK1 := Lib.hid K1
  clear K0 K1 C0
  go_loopw [3, 4, 9] (fun sb sm i wr => ∃ k : Nat, k ≤ 5 ∧ sb = .int .i64 (gIm vs fm k).1 ∧ sm = .int .i64 (gIm vs fm k).2 ∧ i = .int .i64 k ∧ Hid (Below (w.heap.size + 1) (w.alloc (.cells #[.slice A vs.length c, .int .i64 (fm : Int), .int .i64 tg] 98)) wr)) (fun _ _ i _ => 5 - (intOf i).toNat)
  case atStart => exact ⟨0, by omega, rfl, rfl, rfl, B0⟩
  case round =>
    clear B0
    obtain ⟨k, hk, rfl, rfl, rfl, hB⟩ := hrel
    by_cases hlt : k < 5
    · have i1 : (k : Int) < 5 := by omega
      have j2 : (0 : Int) ≤ (k : Int) := by omega
      have hmn : min k 64 = k := by omega
      have hz := hB.out.size; (simp at hz)
      have k0 := (hB.out.cell (p := ⟨w.heap.size, 0, none⟩) (by simp)).trans HK0.out
      have k1 := (hB.out.cell (p := ⟨w.heap.size, 1, none⟩) (by simp)).trans HK1.out
      have hbw := Lib.hid (show Below w.heap.size w wr from Below.trans (show Below w.heap.size w (w.alloc (.cells #[.slice A vs.length c, .int .i64 (fm : Int), .int .i64 tg] 98)) from (by repeat (first | exact Below.refl _ _ | assumption | refine Below.drew ?_ | refine below_drewN ?_ _ | refine Below.alloc ?_ (by first | omega | (simp <;> omega)) _ | refine Below.setCell ?_ (by first | omega | (simp <;> omega)) _ | refine Below.trans ?_ (Below.mono (by assumption) (by first | omega | (simp <;> omega)))))) (hB.out.mono (by omega)))
      have HX := Lib.hid (gIm_succ vs fm k)
      have he := gIm_ends vs fm k
      obtain ⟨s, hs⟩ : ∃ s, s = gIm vs fm k := ⟨_, rfl⟩
      rw [← hs] at HX he ⊢
      clear hs
      obtain ⟨sb, sm⟩ := s
      dsimp only at he
      have tb := bit_test0g fm k (by omega)
      cases hb : fm.testBit k with
      | false =>
        rw [hb] at tb
        have HN := Lib.hid (show gIm vs fm (k + 1) = (sb, sm) from by rw [HX.out, hb]; rfl)
        clear hb
        go_wp2_with fail
        go_roundw
        case rel => exact ⟨k + 1, by omega, by rw [HN.out], by rw [HN.out], by go_num, hB⟩
        case measure => simp [intOf]; omega
      | true =>
        rw [hb] at tb
        have HN0 := Lib.hid (show gIm vs fm (k + 1) = gB vs (sb, sm) k from by rw [HX.out, hb]; rfl)
        clear hb
        go_wp2_with fail
        refine (impl_split_any k _ vs _ (Rd.below H.out hbw.out rfl) HS.out hlt).mono ?_; rintro e w2 ⟨u1, u2, rfl, hF, hb2⟩
        obtain ⟨a1, c1, rfl⟩ : ∃ a c, u1 = .slice a (gSet vs k true).length c := own_form hF.head
        obtain ⟨a2, c2, rfl⟩ : ∃ a c, u2 = .slice a (gSet vs k false).length c := own_form hF.swap.head
        have hm : gMost vs k = max (gSet vs k true).length (gSet vs k false).length := rfl
        have l1 := gSet_len vs k true
        have l2 := gSet_len vs k false
        have B2 := Lib.hid (Below.trans hB.out (hb2.mono (by omega)))
        obtain ⟨n1, hn1⟩ : ∃ n, n = (gSet vs k true).length := ⟨_, rfl⟩
        obtain ⟨n2, hn2⟩ : ∃ n, n = (gSet vs k false).length := ⟨_, rfl⟩
        rw [← hn1, ← hn2] at hm ⊢
        rw [← hn1] at l1; rw [← hn2] at l2
        clear hF hb2 hB k0 k1 hn1 hn2
        have hmc : ((max n1 n2 : Nat) : Int) = max (n1 : Int) (n2 : Int) := by omega
        by_cases hgt : sm < max (n1 : Int) (n2 : Int)
        · have HN := Lib.hid (show gIm vs fm (k + 1) = ((k : Int), max (n1 : Int) (n2 : Int)) from by rw [HN0.out]; unfold gB; rw [hm, hmc, if_pos hgt])
          clear hm hmc
          go_wp2_with fail
          go_roundw
          case rel => exact ⟨k + 1, by omega, by rw [HN.out], by rw [HN.out], by go_num, B2⟩
          case measure => simp [intOf]; omega
        · have HN := Lib.hid (show gIm vs fm (k + 1) = (sb, sm) from by rw [HN0.out]; unfold gB; rw [hm, hmc, if_neg hgt])
          clear hm hmc
          go_wp2_with fail
          go_roundw
          case rel => exact ⟨k + 1, by omega, by rw [HN.out], by rw [HN.out], by go_num, B2⟩
          case measure => simp [intOf]; omega
    · have ek : k = 5 := by omega
      subst ek
      have i1 : ¬ ((5 : Nat) : Int) < 5 := by omega
      have hbw := Lib.hid (show Below w.heap.size w wr from Below.trans (show Below w.heap.size w (w.alloc (.cells #[.slice A vs.length c, .int .i64 (fm : Int), .int .i64 tg] 98)) from (by repeat (first | exact Below.refl _ _ | assumption | refine Below.drew ?_ | refine below_drewN ?_ _ | refine Below.alloc ?_ (by first | omega | (simp <;> omega)) _ | refine Below.setCell ?_ (by first | omega | (simp <;> omega)) _ | refine Below.trans ?_ (Below.mono (by assumption) (by first | omega | (simp <;> omega)))))) (hB.out.mono (by omega)))
      go_wp2_with fail
      go_ret
      exact ⟨rfl, hbw.out⟩
/-- A task in memory: its vectors' slice and what stands for its free qubits. -/
structure TM where (x : GT) (vv md : Value)
def TM.cs (y : TM) : List Value := [y.vv, y.md, .int .i64 y.x.tg]
theorem TM.len3 (y : TM) : y.cs.length = 3 := rfl
def TM.add (j t : Nat) (y : TM) : TM := ⟨y.x.add j t, y.vv, y.md⟩
def vrow (y : TM) : Row := nrow y.vv y.x.vs
def trow (t : TypeId) (v : Value) (T : List TM) : Row := ⟨v, t, 3, T.length, T.flatMap TM.cs⟩
theorem trow_add (t : TypeId) (v : Value) (T : List TM) (j u : Nat) : trow t v (T.map (TM.add j u)) = trow t v T := by
  unfold trow
  rw [List.length_map, List.flatMap_map]
  rfl
/-- Nothing but the blocks of these slices may have changed. -/
structure Cha (vs : List Value) (w w' : World) : Prop where
  os : w'.os = w.os
  tape : w'.tape = w.tape
  output : w'.output = w.output
  size : w.heap.size ≤ w'.heap.size
  block : ∀ k, k < w.heap.size → (∀ v ∈ vs, v.ownBlock ≠ some k) → w'.heap[k]? = w.heap[k]?
theorem Cha.refl (vs : List Value) (w : World) : Cha vs w w := ⟨rfl, rfl, rfl, Nat.le_refl _, fun _ _ _ => rfl⟩
theorem Cha.trans {vs : List Value} {a b c : World} (h : Cha vs a b) (k : Cha vs b c) : Cha vs a c :=
  ⟨k.os.trans h.os, k.tape.trans h.tape, k.output.trans h.output, Nat.le_trans h.size k.size, fun i hi hn => (k.block i (Nat.lt_of_lt_of_le hi h.size) hn).trans (h.block i hi hn)⟩
theorem Cha.call {vs : List Value} {w w' : World} (h : Below w.heap.size w w') : Cha vs w w' := ⟨h.os, h.tape, h.output, h.size, fun k hk _ => h.block k hk⟩
theorem Cha.grown {vs : List Value} {w w' : World} {v : Value} (h : w.grownBy w' v.ownBlock) (hv : v ∈ vs) : Cha vs w w' := ⟨h.os, h.tape, h.output, h.size, fun k hk hn => h.block k hk (fun e => hn v hv e.symm)⟩
theorem Cha.cell {vs : List Value} {w w' : World} {b o : Nat} {u : Value} (h : Cha vs w w') (hn : ∀ v ∈ vs, v.ownBlock ≠ some b) (hc : w.cell? ⟨b, o, none⟩ = some u) : w'.cell? ⟨b, o, none⟩ = some u := by
  have hl := World.block_lt_of_cell? _ _ hc
  rw [← hc]; exact World.cell?_of_block (h.block b hl hn)
theorem trow_cells {w : World} {B : Nat} {t : TypeId} {a : Option Addr} {n cap : Nat} {T : List TM} (h : Row.own w B (trow t (.slice a n cap) T)) {i : Nat} (hi : i < T.length) :
    ∃ g, a = some ⟨g, 0, none⟩ ∧ g < w.heap.size ∧ w.cell? ⟨g, i * 3, none⟩ = some (T[i]).vv ∧ w.cell? ⟨g, i * 3 + 1, none⟩ = some (T[i]).md ∧ w.cell? ⟨g, i * 3 + 2, none⟩ = some (.int .i64 (T[i]).x.tg) := by
  obtain ⟨g, c', e⟩ := Go.Joins.ownsRow_form h (by show 0 < T.length; omega)
  injection e with e1 e2 e3
  have hl := (World.ownsRow.lt h g (by show Value.ownBlock (.slice a n cap) = _; rw [e1]; rfl)).2
  have key : ∀ k u, k < 3 → (TM.cs T[i])[k]? = some u → w.cell? ⟨g, i * 3 + k, none⟩ = some u := by
    intro k u hk hu
    have h9 := World.ownsRow.cells h (g := g) (by show Value.ownBlock (.slice a n cap) = _; rw [e1]; rfl) (i * 3 + k) u (by show (T.flatMap TM.cs)[i * 3 + k]? = some u; rw [flat_get TM.len3 T i k hi hk]; exact hu)
    rw [Addr.add_lit, Nat.zero_add] at h9
    exact h9
  exact ⟨g, e1, hl, key 0 _ (by omega) rfl, key 1 _ (by omega) rfl, key 2 _ (by omega) rfl⟩
def invTo (j t : Nat) (T : List TM) (i : Nat) : List TM := (T.take i).map (TM.add j t) ++ T.drop i
theorem invTo_zero (j t : Nat) (T : List TM) : invTo j t T 0 = T := by simp [invTo]
theorem invTo_all {j t i : Nat} {T : List TM} (h : T.length ≤ i) : invTo j t T i = T.map (TM.add j t) := by unfold invTo; rw [List.take_of_length_le h, List.drop_of_length_le h, List.append_nil]
theorem fam_at {w : World} {B j t i : Nat} {T : List TM} {R : List Row} (hi : i < T.length) (h : Fam w B ((invTo j t T i).map vrow ++ R)) :
    Fam w B (vrow T[i] :: (((T.take i).map (TM.add j t)).map vrow ++ (((T.drop (i + 1)).map vrow) ++ R))) := by
  refine h.perm ?_
  unfold invTo
  rw [List.drop_eq_getElem_cons hi, List.map_append, List.map_cons, List.append_assoc, List.cons_append]
  exact List.perm_middle
theorem fam_back {w : World} {B j t i : Nat} {T : List TM} {R : List Row} (hi : i < T.length) (h : Fam w B (vrow (T[i].add j t) :: (((T.take i).map (TM.add j t)).map vrow ++ (((T.drop (i + 1)).map vrow) ++ R)))) :
    Fam w B ((invTo j t T (i + 1)).map vrow ++ R) := by
  refine h.perm ?_
  unfold invTo
  rw [List.take_succ_eq_append_getElem hi, List.map_append, List.map_append, List.map_append, List.append_assoc, List.append_assoc]
  exact List.perm_middle.symm
theorem nrow_of_N {W : World} {B g n cap : Nat} {L : List Nat} (hL : L.length = n) (h : OwnN W B g n cap L) : Row.own W B (nrow (.slice (some ⟨g, 0, none⟩) n cap) L) := by
  show W.ownsRow B 3 1 _ L.length _
  rw [hL]; exact h
set_option maxHeartbeats 16000000 in
theorem impl_grayInverted_any (B : Nat) (T : List TM) (R : List Row) (vS : Value) (j t : Nat) (w : World) (hF : Fam w B (T.map vrow ++ R)) (hR : trow 98 vS T ∈ R) (hs : ∀ y ∈ T, Sm y.x.vs) (hmd : ∀ y ∈ T, y.md = .int .i64 (y.x.fm : Int)) (hj : j < 5) (ht : t < 5) (hTl : T.length ≤ 1000) :
    Calls Try.prog 63 #[vS, .int .i64 (j : Int), .int .i64 (t : Int)] w fun e w' => e = .returned (.tuple #[]) ∧ Fam w' B ((T.map (TM.add j t)).map vrow ++ R) ∧ Cha (T.map TM.vv) w w' := by
  obtain ⟨aS, cS, rfl⟩ : ∃ a c, vS = .slice a T.length c := own_form (hF.own _ (List.mem_append_right _ hR))
  have HR := Lib.hid hR; have HS := Lib.hid hs; have HMD := Lib.hid hmd
  have F0 : Hid (Fam w B ((invTo j t T 0).map vrow ++ R)) := (show Fam _ _ _ from by rw [invTo_zero]; exact hF)
  obtain ⟨p1, p2⟩ := pow_small j (by omega)
  have p3 := pow_31 hj
  have hwp : IntKind.i64.wrap ((2 : Int) ^ j) = (2 : Int) ^ j := IntWalk.i64_in _ (by omega)
  have hmj : min j 64 = j := by omega
  have hmt : min t 64 = t := by omega
  have j2 : (0 : Int) ≤ (j : Int) := by omega
  have t2 : (0 : Int) ≤ (t : Int) := by omega
  clear hF hR hs hmd
  go_enter Try.func63, Try.ntmps63
  go_wp2_with fail
  go_loopw [12] (fun i wr => ∃ k : Nat, k ≤ T.length ∧ i = .int .i64 k ∧ Hid (Fam wr B ((invTo j t T k).map vrow ++ R)) ∧ Hid (Cha (T.map TM.vv) w wr)) (fun i _ => T.length - (intOf i).toNat)
  case atStart => exact ⟨0, Nat.zero_le _, rfl, F0, (show Cha _ _ _ from Cha.refl _ _)⟩
  case round =>
    clear F0
    obtain ⟨k, hk, rfl, hF, hC⟩ := hrel
    by_cases hlt : k < T.length
    · have i1 : (k : Int) < (T.length : Int) := by omega
      obtain ⟨gS, rfl, hgS, q0, q1, q2⟩ := trow_cells (hF.out.own _ (List.mem_append_right _ HR.out)) hlt
      have FA := Lib.hid (fam_at hlt hF.out)
      obtain ⟨y, hy⟩ : ∃ y, y = T[k] := ⟨_, rfl⟩
      have hyT : y ∈ T := by rw [hy]; exact List.getElem_mem hlt
      have HY := Lib.hid hy
      rw [← hy] at q0 q1 q2 FA
      have hsy := HS.out y hyT
      have hmy := HMD.out y hyT
      obtain ⟨⟨vs, fm, tg⟩, vv, md⟩ := y
      dsimp only at q0 q1 q2 hsy hmy
      subst hmy
      obtain ⟨aV, cV, rfl⟩ : ∃ a c, vv = .slice a vs.length c := own_form (show Row.own wr B (nrow vv vs) from FA.out.head)
      have HVM := Lib.hid (List.mem_map_of_mem (f := TM.vv) hyT)
      have HSY := Lib.hid hsy.2
      have hvl := hsy.1
      clear hy hyT hsy hF
      have FX := Lib.hid (FA.out.call (show Below wr.heap.size wr (wr.alloc (.cells #[.slice aV vs.length cV, .int .i64 (fm : Int), .int .i64 tg] 98)) from (by repeat (first | exact Below.refl _ _ | assumption | refine Below.drew ?_ | refine below_drewN ?_ _ | refine Below.alloc ?_ (by first | omega | (simp <;> omega)) _ | refine Below.setCell ?_ (by first | omega | (simp <;> omega)) _ | refine Below.trans ?_ (Below.mono (by assumption) (by first | omega | (simp <;> omega)))))))
      have hVb : ∀ g, (Value.slice aV vs.length cV).ownBlock = some g → g ≠ wr.heap.size := fun g e => by have := (World.ownsRow.lt (show wr.ownsRow B 3 1 (.slice aV vs.length cV) vs.length _ from FA.out.head) g e).2; omega
      have HVB := Lib.hid hVb
      have x0 : (wr.alloc (.cells #[.slice aV vs.length cV, .int .i64 (fm : Int), .int .i64 tg] 98)).cell? ⟨wr.heap.size, 0, none⟩ = some (.slice aV vs.length cV) := (by repeat (first | (refine Eq.trans (World.cell?_alloc_at _ _ _ _ ?hh) ?_; (case hh => (simp; done)); rfl) | refine cell_alloc_keep _ ?_))
      have R0 : Hid (Row.own (wr.alloc (.cells #[.slice aV vs.length cV, .int .i64 (fm : Int), .int .i64 tg] 98)) B (nrow (.slice aV vs.length cV) (addTo j t vs 0))) := (show Row.own _ _ _ from by rw [addTo_zero]; exact FX.out.head)
      have CX := Lib.hid (hC.out.trans (Cha.call (show Below wr.heap.size wr (wr.alloc (.cells #[.slice aV vs.length cV, .int .i64 (fm : Int), .int .i64 tg] 98)) from (by repeat (first | exact Below.refl _ _ | assumption | refine Below.drew ?_ | refine below_drewN ?_ _ | refine Below.alloc ?_ (by first | omega | (simp <;> omega)) _ | refine Below.setCell ?_ (by first | omega | (simp <;> omega)) _ | refine Below.trans ?_ (Below.mono (by assumption) (by first | omega | (simp <;> omega))))))))
      clear FA hVb hC
      obtain ⟨bx, hbx⟩ : ∃ b, b = wr.heap.size := ⟨_, rfl⟩
      go_wp2_with fail
      rw [← hbx] at HVB x0 ⊢
      generalize (wr.alloc (.cells #[.slice aV vs.length cV, .int .i64 (fm : Int), .int .i64 tg] 98)) = W at *
      clear q0 q1 q2 hgS hbx
      have HX0 := Lib.hid x0
      clear x0
      go_loopw [19] (fun i wr => ∃ q : Nat, q ≤ vs.length ∧ i = .int .i64 q ∧ Hid (Row.own wr B (nrow (.slice aV vs.length cV) (addTo j t vs q))) ∧ Hid (W.grownBy wr (Value.slice aV vs.length cV).ownBlock)) (fun i _ => vs.length - (intOf i).toNat)
      case atStart => exact ⟨0, Nat.zero_le _, rfl, R0, (show World.grownBy _ _ _ from grown_refl _ _)⟩
      case round =>
        clear R0
        obtain ⟨q, hq, rfl, hO, hg⟩ := hrel
        by_cases hqt : q < vs.length
        · have i2 : (q : Int) < (vs.length : Int) := by omega
          have i3 : (0 : Int) ≤ (q : Int) := by omega
          obtain ⟨g, c', e⟩ := Go.Joins.ownsRow_form hO.out (by show 0 < (addTo j t vs q).length; rw [addTo_len]; omega)
          have ON0 : OwnN wr B g vs.length cV (addTo j t vs q) := by
            injection e with e1 e2 e3
            have h9 := hO.out
            rw [e1] at h9
            unfold Row.own nrow at h9
            dsimp only at h9
            rw [addTo_len] at h9
            exact h9
          injection e with e1 e2 e3
          subst e1
          have ON := Lib.hid ON0; clear ON0 e2 e3 hO
          have ck := own_int_cell ON.out q (by rw [addTo_len]; exact hqt)
          rw [addTo_get hqt] at ck
          have fk := ON.out.frz q
          have HX := Lib.hid (addTo_succ (j := j) (t := t) hqt)
          have hx31 : vs.getD q 0 ≤ 31 := by rw [getD_lt hqt]; exact HSY.out _ (List.getElem_mem hqt)
          have hsame := Lib.hid (show (addTo j t vs q).set q (vs.getD q 0) = addTo j t vs q from by rw [← addTo_get (j := j) (t := t) hqt]; exact set_same (by rw [addTo_len]; exact hqt))
          have x0 := cell_grown hg.out HX0.out (fun e => HVB.out _ e rfl)
          obtain ⟨x, hx⟩ : ∃ x, x = vs.getD q 0 := ⟨_, rfl⟩
          rw [← hx] at ck HX hx31 hsame
          clear hx
          have tb := bit_test x t (by omega)
          cases hb : x.testBit t with
          | false =>
            rw [hb] at tb
            have HN := Lib.hid (show addTo j t vs (q + 1) = addTo j t vs q from by rw [HX.out, addV_no hb, hsame.out])
            clear hb
            go_wp2_with fail
            go_roundw
            case rel => exact ⟨q + 1, by omega, by go_num, (show Row.own _ _ _ from nrow_of_N (addTo_len _ _ _ _) (by rw [HN.out]; exact ON.out)), hg⟩
            case measure => simp [intOf]; omega
          | true =>
            rw [hb] at tb
            have HN := Lib.hid (show addTo j t vs (q + 1) = (addTo j t vs q).set q (x ^^^ 2 ^ j) from by rw [HX.out, addV_yes hb])
            have hxo := bits_xor x (2 ^ j) (by omega) (by omega)
            rw [show ((2 ^ j : Nat) : Int) = (2 : Int) ^ j from by simp] at hxo
            have S1 := Lib.hid ((ON.out.set q (x ^^^ 2 ^ j)).below (show Below (wr.setCell ⟨g, q, none⟩ (.int .i64 ((x ^^^ 2 ^ j : Nat) : Int))).heap.size (wr.setCell ⟨g, q, none⟩ (.int .i64 ((x ^^^ 2 ^ j : Nat) : Int))) (wr.setCell ⟨g, q, none⟩ (.int .i64 ((x ^^^ 2 ^ j : Nat) : Int))).drew from (by repeat (first | exact Below.refl _ _ | assumption | refine Below.drew ?_ | refine below_drewN ?_ _ | refine Below.alloc ?_ (by first | omega | (simp <;> omega)) _ | refine Below.setCell ?_ (by first | omega | (simp <;> omega)) _ | refine Below.trans ?_ (Below.mono (by assumption) (by first | omega | (simp <;> omega)))))) rfl)
            have G1 := Lib.hid (grown_drew (grown_trans0 hg.out (World.ownsRow.stored (show wr.ownsRow B 3 1 (.slice (some ⟨g, 0, none⟩) vs.length cV) vs.length _ from ON.out) q (.int .i64 ((x ^^^ 2 ^ j : Nat) : Int))).2))
            clear hb hg
            go_wp2_with fail
            go_region
            go_wp2_with fail
            go_roundw
            case rel => exact ⟨q + 1, by omega, by go_num, (show Row.own _ _ _ from nrow_of_N (addTo_len _ _ _ _) (by rw [HN.out]; exact S1.out)), G1⟩
            case measure => simp [intOf]; omega
        · have i2 : ¬ (q : Int) < (vs.length : Int) := by omega
          have HE := Lib.hid (addTo_all (j := j) (t := t) (show vs.length ≤ q by omega))
          rw [HE.out] at hO
          have FU := Lib.hid (FX.out.upd hg.out (r' := vrow (TM.add j t ⟨⟨vs, fm, tg⟩, .slice aV vs.length cV, .int .i64 (fm : Int)⟩)) hO.out (.inl rfl))
          have FB := Lib.hid (fam_back hlt (by rw [← HY.out]; exact FU.out))
          have CB := Lib.hid (CX.out.trans (Cha.grown hg.out HVM.out))
          clear FU hO hg
          go_wp2_with fail
          go_roundw
          case rel => exact ⟨k + 1, by omega, by go_num, FB, CB⟩
          case measure => simp [intOf]; omega
    · have i1 : ¬ (k : Int) < (T.length : Int) := by omega
      rw [invTo_all (by omega)] at hF
      go_wp2_with fail
      go_end0
      exact ⟨rfl, (by have h9 := hF.out; (first | exact h9 | (rw [List.map_map] at h9; exact h9))), hC.out⟩
end Go.Proofs.Ytbcjligkjoimmaa
namespace Go.Proofs.Ytbcjligkjoimmaa
set_option linter.unusedSimpArgs false
set_option linter.unusedVariables false
set_option linter.unnecessarySimpa false
set_option maxRecDepth 200000
open Go.ChangeShapes Go.WideShapes Go.ChangeAt Go.RowKit

def orow (v : Value) (O : List E3) : Row := ⟨v, 58, 3, O.length, O.flatMap E3.cs⟩
theorem info_grayTask : (Try.prog.info? 98).map (fun i => (i.zero, i.size, i.bytes)) = some (some (.agg #[.slice none 0 0, .int .i64 0, .int .i64 0]), 3, 40) := by kernel_rfl
theorem gLoop_nil (n f : Nat) (out : List E3) : gLoop n f [] out = out := by cases f <;> rfl
theorem gLoop_empty {n f : Nat} {x : GT} {r : List GT} {out : List E3} (h : x.vs = []) : gLoop n (f + 1) (x :: r) out = gLoop n f r out := by
  conv => lhs; unfold gLoop
  rw [if_pos h]
theorem gLoop_stop {n f : Nat} {x : GT} {r : List GT} {out : List E3} (h : x.vs ≠ []) (hb : gBest (gIns n x r out).vs x.fm < 0) : gLoop n (f + 1) (x :: r) out = gLoop n f (gIns n x r out).st (gIns n x r out).out := by
  conv => lhs; unfold gLoop
  rw [if_neg h, if_pos hb]
theorem gLoop_split {n f j : Nat} {x : GT} {r : List GT} {out : List E3} (h : x.vs ≠ []) (hb : gBest (gIns n x r out).vs x.fm = (j : Int)) :
    gLoop n (f + 1) (x :: r) out = gLoop n f (⟨gSet (gIns n x r out).vs j false, clearB x.fm j, x.tg⟩ :: ⟨gSet (gIns n x r out).vs j true, clearB x.fm j, if x.tg < 0 then (j : Int) else x.tg⟩ :: (gIns n x r out).st) (gIns n x r out).out := by
  conv => lhs; unfold gLoop
  rw [if_neg h, if_neg (by rw [hb]; omega), hb, Int.toNat_natCast]
theorem andNot_clear : ∀ fm : Nat, fm < 32 → ∀ j : Nat, j < 5 → fm.testBit j = true → bits .andNot .i64 (fm : Int) ((2 : Int) ^ j) = ((clearB fm j : Nat) : Int) := by decide +kernel
theorem pow_sub1 {n : Nat} (h : n ≤ 5) : IntKind.i64.wrap ((2 : Int) ^ n - 1) = ((2 ^ n - 1 : Nat) : Int) := by
  have : n = 0 ∨ n = 1 ∨ n = 2 ∨ n = 3 ∨ n = 4 ∨ n = 5 := by omega
  rcases this with rfl | rfl | rfl | rfl | rfl | rfl <;> decide +kernel
theorem fam_lit0 {w : World} {B : Nat} {R : List Row} (h : Fam w B R) (hB : B ≤ w.heap.size) : Fam (w.alloc (.cells #[] 58)) B (orow (.slice (some ⟨w.heap.size, 0, none⟩) 0 0) [] :: R) :=
  h.add (show Below w.heap.size w _ from Below.alloc (Below.refl _ _) (Nat.le_refl _) _) (own_lit0 (f := E3.cs) (sz := 3) w w.heap.size 58 w.heap.size rfl (Nat.le_refl _)) hB
theorem fam_stack {w : World} {B : Nat} {R : List Row} (y : TM) (h : Fam w B R) (hB : B ≤ w.heap.size) : Fam (w.alloc (.cells #[y.vv, y.md, .int .i64 y.x.tg] 98)) B (trow 98 (.slice (some ⟨w.heap.size, 0, none⟩) 1 1) [y] :: R) := by
  refine h.add (show Below w.heap.size w _ from Below.alloc (Below.refl _ _) (Nat.le_refl _) _) ?_ hB
  refine ⟨rfl, .inr ⟨w.heap.size, 1, #[y.vv, y.md, .int .i64 y.x.tg], rfl, Nat.le_refl _, ?_, Nat.le_refl _, by unfold maxLen; omega, rfl, rfl⟩⟩
  show (w.heap.push _)[w.heap.size]? = _
  simp
  rfl
theorem fam_call {w w' : World} {B : Nat} {R : List Row} {v : Value} {L : List Nat} (h : Fam w B R) (hb : Below w.heap.size w w') (ho : OwnI w' w.heap.size v (ints L)) (hB : B ≤ w.heap.size) : Fam w' B (nrow v L :: R) :=
  h.add hb (show w'.ownsRow w.heap.size 3 1 v L.length _ from by unfold OwnI at ho; rw [ints_len] at ho; exact ho) hB
/-- The program's state between rounds. -/
structure GMem (n : Nat) (masks : List Nat) (B f : Nat) (w0 w : World) (vO vS : Value) (T : List TM) (O : List E3) : Prop where
  fam : Fam w B (T.map vrow ++ [orow vO O, trow 98 vS T])
  md : ∀ y ∈ T, y.md = .int .i64 (y.x.fm : Int)
  inv : GInv n f (T.map TM.x).reverse O
  run : gLoop n f (T.map TM.x).reverse O = gAll n masks
  bel : Below B w0 w
  BW : B ≤ w.heap.size
/-- The program's state within a round: the top task y lies in the box bx. -/
structure GIw (B bx : Nat) (w0 w : World) (vO vS : Value) (T : List TM) (y : TM) (O : List E3) : Prop where
  fam : Fam w B ((T ++ [y]).map vrow ++ [orow vO O, trow 98 vS (T ++ [y])])
  md : ∀ z ∈ T ++ [y], z.md = .int .i64 (z.x.fm : Int)
  bel : Below B w0 w
  BW : B ≤ w.heap.size
  c0 : w.cell? ⟨bx, 0, none⟩ = some y.vv
  c1 : w.cell? ⟨bx, 1, none⟩ = some (.int .i64 (y.x.fm : Int))
  c2 : w.cell? ⟨bx, 2, none⟩ = some (.int .i64 y.x.tg)
  offO : vO.ownBlock ≠ some bx
  offS : vS.ownBlock ≠ some bx
  offV : ∀ z ∈ T ++ [y], z.vv.ownBlock ≠ some bx
  bB : B ≤ bx
  bw : bx < w.heap.size
section
variable {B bx : Nat} {w0 w w' : World} {vO vS : Value} {T : List TM} {y : TM} {O : List E3}
theorem bel_cell {b o : Nat} {u : Value} (hb : Below w.heap.size w w') (hc : w.cell? ⟨b, o, none⟩ = some u) : w'.cell? ⟨b, o, none⟩ = some u :=
  (hb.cell (World.block_lt_of_cell? _ _ hc)).trans hc
theorem GIw.call (h : GIw B bx w0 w vO vS T y O) (hb : Below w.heap.size w w') : GIw B bx w0 w' vO vS T y O :=
  ⟨h.fam.call hb, h.md, Below.trans h.bel (hb.mono h.BW), Nat.le_trans h.BW hb.size, bel_cell hb h.c0, bel_cell hb h.c1, bel_cell hb h.c2, h.offO, h.offS, h.offV, h.bB, Nat.lt_of_lt_of_le h.bw hb.size⟩
theorem GIw.app {g : E3} {v3 : Value} (h : GIw B bx w0 w vO vS T y O) (hg : w.grownBy w' vO.ownBlock) (ho : w'.ownsRow B 58 3 v3 (O.length + 1) (O.flatMap E3.cs ++ g.cs)) (hat : v3.ownBlock = vO.ownBlock ∨ v3.ownBlock = some w.heap.size) : GIw B bx w0 w' v3 vS T y (O ++ [g]) := by
  have hO : Fam w B (orow vO O :: ((T ++ [y]).map vrow ++ [trow 98 vS (T ++ [y])])) := h.fam.perm List.perm_middle
  have ho' : Row.own w' B (orow v3 (O ++ [g])) := by
    show w'.ownsRow B 58 3 v3 (O ++ [g]).length ((O ++ [g]).flatMap E3.cs)
    rw [show (O ++ [g]).length = O.length + 1 from by simp, List.flatMap_append]
    simpa using ho
  have hf := hO.upd hg ho' hat
  refine ⟨hf.perm List.perm_middle.symm, h.md, ?_, Nat.le_trans h.BW hg.size, cell_grown hg h.c0 h.offO, cell_grown hg h.c1 h.offO, cell_grown hg h.c2 h.offO, ?_, h.offS, h.offV, h.bB, Nat.lt_of_lt_of_le h.bw hg.size⟩
  · exact grown_below h.bel (show w.ownsRow B 58 3 vO O.length _ from hO.head) hg (Nat.le_refl _) h.BW
  · rcases hat with e | e
    · rw [e]; exact h.offO
    · rw [e]; intro e2; injection e2 with e2; have := h.bw; omega
theorem Cha.below {vs : List Value} (h : Below B w0 w) (hc : Cha vs w w') (hB : B ≤ w.heap.size) (hv : ∀ v ∈ vs, ∀ g, v.ownBlock = some g → B ≤ g) : Below B w0 w' := by
  refine ⟨hc.os.trans h.os, hc.tape.trans h.tape, hc.output.trans h.output, Nat.le_trans h.size hc.size, fun k hk => (hc.block k (by omega) (fun v hv2 e => ?_)).trans (h.block k hk)⟩
  have := hv v hv2 k e
  omega
theorem GIw.inv {j t : Nat} (h : GIw B bx w0 w vO vS T y O) (hF : Fam w' B (((T ++ [y]).map (TM.add j t)).map vrow ++ [orow vO O, trow 98 vS (T ++ [y])])) (hC : Cha ((T ++ [y]).map TM.vv) w w') : GIw B bx w0 w' vO vS (T.map (TM.add j t)) (y.add j t) O := by
  have hn : ∀ v ∈ (T ++ [y]).map TM.vv, v.ownBlock ≠ some bx := fun v hv => by
    obtain ⟨z, hz, rfl⟩ := List.mem_map.1 hv
    exact h.offV z hz
  have e : T.map (TM.add j t) ++ [y.add j t] = (T ++ [y]).map (TM.add j t) := by simp
  refine ⟨?_, ?_, ?_, Nat.le_trans h.BW hC.size, hC.cell hn h.c0, hC.cell hn h.c1, hC.cell hn h.c2, h.offO, h.offS, ?_, h.bB, Nat.lt_of_lt_of_le h.bw hC.size⟩
  · rw [e, trow_add]; exact hF
  · rw [e]
    intro z hz
    obtain ⟨z0, hz0, rfl⟩ := List.mem_map.1 hz
    exact h.md z0 hz0
  · refine hC.below h.bel h.BW (fun v hv g e2 => ?_)
    obtain ⟨z, hz, rfl⟩ := List.mem_map.1 hv
    exact (World.ownsRow.lt (h.fam.own (vrow z) (List.mem_append_left _ (List.mem_map_of_mem hz))) g e2).1
  · rw [e]
    intro z hz
    obtain ⟨z0, hz0, rfl⟩ := List.mem_map.1 hz
    exact h.offV z0 hz0
end
/-- What the rounds within a task have made of the plain state. -/
structure GIp (n : Nat) (x : GT) (r : List GT) (out : List E3) (k : Nat) (vv : Value) (T : List TM) (y : TM) (O : List E3) : Prop where
  st : (⟨y.x.vs, (T.map TM.x).reverse, O⟩ : GS) = gInTo x.tg ⟨x.vs, r, out⟩ k
  fm : y.x.fm = x.fm
  tg : y.x.tg = x.tg
  vv : y.vv = vv
  ok : GSok n (r.map GT.fm) x.vs.length k out.length ⟨y.x.vs, (T.map TM.x).reverse, O⟩
section
variable {n k : Nat} {x : GT} {r : List GT} {out : List E3} {vv : Value} {T : List TM} {y : TM} {O : List E3}
theorem gIn_no {tg : Int} {s : GS} {j : Nat} (h : gHit tg s.vs j = false) : gIn tg s j = s := by unfold gIn; rw [h]; rfl
theorem gIn_yes {tg : Int} {s : GS} {j : Nat} (h : gHit tg s.vs j = true) : gIn tg s j = ⟨addL j tg.toNat s.vs, s.st.map (GT.add j tg.toNat), s.out ++ [⟨9, (j : Int), tg⟩]⟩ := by unfold gIn; rw [if_pos h]
theorem GIp.no (hn : n ≤ 5) (htg : 0 ≤ x.tg ∧ x.tg < (n : Int)) (hk : k < n) (h : GIp n x r out k vv T y O) (hh : gHit x.tg y.x.vs k = false) : GIp n x r out (k + 1) vv T y O := by
  have e := gIn_ok hn htg hk h.ok
  rw [gIn_no hh] at e
  refine ⟨?_, h.fm, h.tg, h.vv, e⟩
  rw [gInTo_succ, ← h.st, gIn_no hh]
theorem GIp.yes (hn : n ≤ 5) (htg : 0 ≤ x.tg ∧ x.tg < (n : Int)) (hk : k < n) (h : GIp n x r out k vv T y O) (hh : gHit x.tg y.x.vs k = true) : GIp n x r out (k + 1) vv (T.map (TM.add k x.tg.toNat)) (y.add k x.tg.toNat) (O ++ [⟨9, (k : Int), x.tg⟩]) := by
  have e := gIn_ok hn htg hk h.ok
  have e1 : (⟨(y.add k x.tg.toNat).x.vs, ((T.map (TM.add k x.tg.toNat)).map TM.x).reverse, O ++ [⟨9, (k : Int), x.tg⟩]⟩ : GS) = gIn x.tg ⟨y.x.vs, (T.map TM.x).reverse, O⟩ k := by
    rw [gIn_yes hh]
    simp only [List.map_map, ← List.map_reverse]
    rfl
  refine ⟨?_, h.fm, h.tg, h.vv, by rw [e1]; exact e⟩
  rw [gInTo_succ, ← h.st, e1]
end
end Go.Proofs.Ytbcjligkjoimmaa
namespace Go.Proofs.Ytbcjligkjoimmaa
set_option linter.unusedSimpArgs false
set_option linter.unusedVariables false
set_option linter.unnecessarySimpa false
set_option maxRecDepth 200000
open Go.ChangeShapes Go.WideShapes Go.ChangeAt Go.RowKit

theorem wts_len : ∀ st : List GT, st.length ≤ wts st
  | [] => Nat.zero_le _
  | x :: r => by
    have := wt_pos x.fm
    have := wts_len r
    rw [wts_cons, List.length_cons]; omega
theorem stack_rev (T : List TM) (y : TM) : ((T ++ [y]).map TM.x).reverse = y.x :: (T.map TM.x).reverse := by simp
section
variable {w w' : World} {B : Nat} {vO : Value} {T : List TM} {y : TM} {O : List E3}
theorem stack_take (T : List TM) (y : TM) : ((T ++ [y]).flatMap TM.cs).take (T.length * 3) = T.flatMap TM.cs := by
  have hl : (T.flatMap TM.cs).length = T.length * 3 := by
    induction T with
    | nil => rfl
    | cons a r ih => rw [List.flatMap_cons, List.length_append, ih, TM.len3, List.length_cons]; omega
  rw [List.flatMap_append, ← hl, List.take_left]
/-- The stack without its top. -/
theorem fam_cut {g c : Nat} (h : Fam w B ((T ++ [y]).map vrow ++ [orow vO O, trow 98 (.slice (some ⟨g, 0, none⟩) (T.length + 1) c) (T ++ [y])])) :
    Fam w B (vrow y :: (T.map vrow ++ [orow vO O, trow 98 (.slice (some ⟨g, 0, none⟩) T.length c) T])) := by
  have h1 : Fam w B (trow 98 (.slice (some ⟨g, 0, none⟩) (T.length + 1) c) (T ++ [y]) :: ((T ++ [y]).map vrow ++ [orow vO O])) := by
    refine h.perm ?_
    rw [show ((T ++ [y]).map vrow ++ [orow vO O, trow 98 (.slice (some ⟨g, 0, none⟩) (T.length + 1) c) (T ++ [y])]) = ((T ++ [y]).map vrow ++ [orow vO O]) ++ [trow 98 (.slice (some ⟨g, 0, none⟩) (T.length + 1) c) (T ++ [y])] from by rw [List.append_assoc]; rfl]
    exact List.perm_append_comm
  have ho : w.ownsRow B 98 3 (.slice (some ⟨g, 0, none⟩) (T.length + 1) c) (T.length + 1) ((T ++ [y]).flatMap TM.cs) := by
    have h9 := h1.head
    unfold Row.own trow at h9
    dsimp only at h9
    rw [show (T ++ [y]).length = T.length + 1 from by simp] at h9
    exact h9
  have hc := own_cut ho (m := T.length) (by omega)
  rw [stack_take] at hc
  have h2 := h1.upd (r' := trow 98 (.slice (some ⟨g, 0, none⟩) T.length c) T) (grown_refl w _) hc (.inl rfl)
  refine h2.perm ?_
  rw [List.map_append, List.append_assoc]
  have e : (vrow y :: (T.map vrow ++ [orow vO O, trow 98 (.slice (some ⟨g, 0, none⟩) T.length c) T])) = (vrow y :: (T.map vrow ++ [orow vO O])) ++ [trow 98 (.slice (some ⟨g, 0, none⟩) T.length c) T] := by simp
  rw [e]
  refine (List.Perm.trans ?_ List.perm_append_comm)
  exact List.Perm.cons _ List.perm_middle
theorem Fam.join {R R2 : List Row} (h : Fam w B R) (hb : Below w.heap.size w w') (h2 : Fam w' w.heap.size R2) (hB : B ≤ w.heap.size) : Fam w' B (R2 ++ R) := by
  refine ⟨fun r hr => ?_, List.pairwise_append.2 ⟨h2.ap, h.ap, fun a ha b hb2 g e e2 => ?_⟩⟩
  · rcases List.mem_append.1 hr with hr | hr
    · exact own_le (h2.own r hr) hB
    · exact (h.call hb).own r hr
  · have h3 := (World.ownsRow.lt (h2.own a ha) g e).1
    have h4 := (World.ownsRow.lt (h.own b hb2) g e2).2
    omega
/-- Two tasks laid on the stack. -/
theorem fam_push {vS v3 : Value} {y1 y2 : TM} (h : Fam w B (vrow y1 :: vrow y2 :: (T.map vrow ++ [orow vO O, trow 98 vS T]))) (hg : w.grownBy w' vS.ownBlock)
    (ho : w'.ownsRow B 98 3 v3 (T.length + 2) (T.flatMap TM.cs ++ (y1.cs ++ y2.cs))) (hat : v3.ownBlock = vS.ownBlock ∨ v3.ownBlock = some w.heap.size) :
    Fam w' B ((T ++ [y1, y2]).map vrow ++ [orow vO O, trow 98 v3 (T ++ [y1, y2])]) := by
  have e : (vrow y1 :: vrow y2 :: (T.map vrow ++ [orow vO O, trow 98 vS T])) = (vrow y1 :: vrow y2 :: (T.map vrow ++ [orow vO O])) ++ [trow 98 vS T] := by simp
  have h1 : Fam w B (trow 98 vS T :: (vrow y1 :: vrow y2 :: (T.map vrow ++ [orow vO O]))) := h.perm (by rw [e]; exact List.perm_append_comm)
  have ho' : Row.own w' B (trow 98 v3 (T ++ [y1, y2])) := by
    show w'.ownsRow B 98 3 v3 (T ++ [y1, y2]).length ((T ++ [y1, y2]).flatMap TM.cs)
    rw [show (T ++ [y1, y2]).length = T.length + 2 from by simp, List.flatMap_append]
    simpa using ho
  refine (h1.upd hg ho' hat).perm ?_
  have e2 : (T ++ [y1, y2]).map vrow ++ [orow vO O, trow 98 v3 (T ++ [y1, y2])] = (T.map vrow ++ ([vrow y1, vrow y2] ++ [orow vO O])) ++ [trow 98 v3 (T ++ [y1, y2])] := by simp
  rw [e2]
  refine List.Perm.trans ?_ List.perm_append_comm
  refine List.Perm.cons _ ?_
  rw [← List.append_assoc (T.map vrow)]
  have := (List.perm_append_comm (l₁ := [vrow y1, vrow y2]) (l₂ := T.map vrow)).append_right [orow vO O]
  simpa using this
end
theorem GIw.start {n f B : Nat} {masks : List Nat} {w0 w w' : World} {vO vS : Value} {T : List TM} {y : TM} {O : List E3} (h : GMem n masks B f w0 w vO vS (T ++ [y]) O) (hb : Below w.heap.size w w')
    (c0 : w'.cell? ⟨w.heap.size, 0, none⟩ = some y.vv) (c1 : w'.cell? ⟨w.heap.size, 1, none⟩ = some (.int .i64 (y.x.fm : Int))) (c2 : w'.cell? ⟨w.heap.size, 2, none⟩ = some (.int .i64 y.x.tg)) (hw : w.heap.size < w'.heap.size) :
    GIw B w.heap.size w0 w' vO vS T y O := by
  have no : ∀ r ∈ (T ++ [y]).map vrow ++ [orow vO O, trow 98 vS (T ++ [y])], r.v.ownBlock ≠ some w.heap.size := fun r hr e => by
    have := (World.ownsRow.lt (h.fam.own r hr) _ e).2; omega
  exact ⟨h.fam.call hb, h.md, Below.trans h.bel (hb.mono h.BW), Nat.le_trans h.BW hb.size, c0, c1, c2, no (orow vO O) (by simp), no (trow 98 vS (T ++ [y])) (by simp), fun z hz => no (vrow z) (List.mem_append_left _ (List.mem_map_of_mem hz)), h.BW, hw⟩
theorem GIp.start {n f : Nat} {r : List GT} {T : List TM} {y : TM} {O : List E3} (hr : (T.map TM.x).reverse = r) (h : GInv n (f + 1) (y.x :: r) O) : GIp n y.x r O 0 y.vv T y O := by
  subst hr
  have hx := h.ok y.x (by simp)
  exact ⟨rfl, rfl, rfl, rfl, ⟨hx.sm, rfl, fun z hz => h.ok z (by simp [List.mem_cons, hz]), rfl, by simp, h.gates⟩⟩
theorem GIp.done {n k : Nat} {x : GT} {r : List GT} {out : List E3} {vv : Value} {T : List TM} {y : TM} {O : List E3} (h : GIp n x r out k vv T y O) (hk : (x.tg < 0 ∧ k = 0) ∨ (0 ≤ x.tg ∧ k = n)) : gIns n x r out = ⟨y.x.vs, (T.map TM.x).reverse, O⟩ := by
  unfold gIns
  rcases hk with ⟨h1, rfl⟩ | ⟨h1, rfl⟩
  · rw [if_pos h1, h.st]; rfl
  · rw [if_neg (by omega), h.st]
theorem GIp.Tlen {n k : Nat} {x : GT} {r : List GT} {out : List E3} {vv : Value} {T : List TM} {y : TM} {O : List E3} (h : GIp n x r out k vv T y O) : T.length = r.length := by
  have := congrArg List.length h.ok.fms
  simpa using this
theorem GIp.sms {n k : Nat} {x : GT} {r : List GT} {out : List E3} {vv : Value} {T : List TM} {y : TM} {O : List E3} (h : GIp n x r out k vv T y O) : ∀ z ∈ T ++ [y], Sm z.x.vs := by
  intro z hz
  rcases List.mem_append.1 hz with hz | hz
  · exact (h.ok.ok z.x (by simp only [List.mem_reverse, List.mem_map]; exact ⟨z, hz, rfl⟩)).sm
  · simp only [List.mem_singleton] at hz
    subst hz; exact h.ok.sm
theorem GMem.stop {n f B : Nat} {masks : List Nat} {w0 w : World} {vO vS : Value} {x : GT} {r : List GT} {out : List E3} {v2 : List Nat} {T2 : List TM} {O2 : List E3} (hn : n ≤ 5)
    (hi : GInv n (f + 1) (x :: r) out) (hr : gLoop n (f + 1) (x :: r) out = gAll n masks) (hx : ¬ x.vs = []) (hI : gIns n x r out = ⟨v2, (T2.map TM.x).reverse, O2⟩) (hb : gBest v2 x.fm < 0)
    (fam : Fam w B (T2.map vrow ++ [orow vO O2, trow 98 vS T2])) (md : ∀ y ∈ T2, y.md = .int .i64 (y.x.fm : Int)) (bel : Below B w0 w) (BW : B ≤ w.heap.size) : GMem n masks B f w0 w vO vS T2 O2 := by
  have h1 := gInv_stop hn hi
  have h2 := gLoop_stop (n := n) (f := f) (r := r) (out := out) hx (by rw [hI]; exact hb)
  rw [hI] at h1 h2
  exact ⟨fam, md, h1, h2.symm.trans hr, bel, BW⟩
def tkM (vs : List Nat) (fm : Nat) (tg : Int) (u : Value) : TM := ⟨⟨vs, fm, tg⟩, u, .int .i64 (fm : Int)⟩
theorem GMem.split {n f B j : Nat} {masks : List Nat} {w0 w : World} {vO vS u1 u2 : Value} {x : GT} {r : List GT} {out : List E3} {v2 : List Nat} {T2 : List TM} {O2 : List E3} {tg : Int} (hn : n ≤ 5)
    (hi : GInv n (f + 1) (x :: r) out) (hr : gLoop n (f + 1) (x :: r) out = gAll n masks) (hx : ¬ x.vs = []) (hI : gIns n x r out = ⟨v2, (T2.map TM.x).reverse, O2⟩) (hj : j ∈ setB x.fm 5) (hjn : j < n) (hb : gBest v2 x.fm = (j : Int)) (htg : tg = if x.tg < 0 then (j : Int) else x.tg)
    (fam : Fam w B ((T2 ++ [tkM (gSet v2 j true) (clearB x.fm j) tg u1, tkM (gSet v2 j false) (clearB x.fm j) x.tg u2]).map vrow ++ [orow vO O2, trow 98 vS (T2 ++ [tkM (gSet v2 j true) (clearB x.fm j) tg u1, tkM (gSet v2 j false) (clearB x.fm j) x.tg u2])]))
    (md : ∀ y ∈ T2, y.md = .int .i64 (y.x.fm : Int)) (bel : Below B w0 w) (BW : B ≤ w.heap.size) :
    GMem n masks B f w0 w vO vS (T2 ++ [tkM (gSet v2 j true) (clearB x.fm j) tg u1, tkM (gSet v2 j false) (clearB x.fm j) x.tg u2]) O2 := by
  have htg1 : -1 ≤ tg ∧ tg < (n : Int) := by
    have := (hi.ok x (by simp)).tg
    rw [htg]; split <;> omega
  have h1 := gInv_split (tg := tg) hn hi hj htg1
  have h2 := gLoop_split (n := n) (f := f) (j := j) (r := r) (out := out) hx (by rw [hI]; exact hb)
  rw [← htg] at h2
  rw [hI] at h1 h2
  have e : ((T2 ++ [(tkM (gSet v2 j true) (clearB x.fm j) tg u1 : TM), tkM (gSet v2 j false) (clearB x.fm j) x.tg u2]).map TM.x).reverse = ⟨gSet v2 j false, clearB x.fm j, x.tg⟩ :: ⟨gSet v2 j true, clearB x.fm j, tg⟩ :: (T2.map TM.x).reverse := by simp [tkM]
  refine ⟨fam, fun y hy => ?_, by rw [e]; exact h1, by rw [e]; exact h2.symm.trans hr, bel, BW⟩
  rcases List.mem_append.1 hy with hy | hy
  · exact md y hy
  · simp only [List.mem_cons, List.not_mem_nil, or_false] at hy
    rcases hy with rfl | rfl <;> rfl
theorem free_lt {n fm j : Nat} (h : fm < 2 ^ n) (hj : j ∈ setB fm 5) : j < n := by
  have h1 := (setB_mem hj).2
  rcases Nat.lt_or_ge j n with h2 | h2
  · exact h2
  · rw [testBit_big h h2] at h1; cases h1
theorem clear_lt {fm j : Nat} (h : fm < 32) (hj : j ∈ setB fm 5) : clearB fm j < 32 := (clear_bits fm h j hj).1
theorem task_one {a : Option Addr} {n c : Nat} {x y : Int} {a2 : Option Addr} {n2 c2 : Nat} {x2 y2 : Int} : ∀ u ∈ [Value.slice a n c, .int .i64 x, .int .i64 y, .slice a2 n2 c2, .int .i64 x2, .int .i64 y2], u.oneCell' = true := by
  intro u hu
  simp at hu
  rcases hu with rfl | rfl | rfl | rfl | rfl | rfl <;> rfl
end Go.Proofs.Ytbcjligkjoimmaa
