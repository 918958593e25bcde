/- Slices of gates that are changed in place; slices.Reverse over gates; circuitIf. -/
import Derived.Test.YtfcfpojldoijlaaOwnG
import Derived.Test.YtfcfpojldoijlaaCirc1
import Derived.Test.YtfcfpojldoijlaaWords
import Derived.Test.YtfcfpojldoijlaaTyGate
import Derived.Test.YtfcfpojldoijlaaCut1
import Derived.Test.YtfcfpojldoijlaaTwo2
import Derived.BigRegion
import Derived.Deep.DeepMust
namespace Go.Proofs.Ytfcfpojldoijlaa
set_option linter.unusedSimpArgs false
set_option linter.unusedVariables false
set_option linter.unnecessarySimpa false
set_option maxRecDepth 200000
open Go.ChangeShapes Go.WideShapes Go.ChangeAt Go.RowKit

/-- A list whose first and last k elements have been exchanged. -/
def revTo (xs : List E3) (k : Nat) : List E3 := (List.range xs.length).map fun i => if i < k ∨ xs.length ≤ i + k then xs.getD (xs.length - 1 - i) ⟨0, 0, 0⟩ else xs.getD i ⟨0, 0, 0⟩
theorem revTo_len (xs : List E3) (k : Nat) : (revTo xs k).length = xs.length := by simp [revTo]
theorem revTo_get (xs : List E3) (k i : Nat) (hi : i < xs.length) : (revTo xs k).getD i ⟨0, 0, 0⟩ = if i < k ∨ xs.length ≤ i + k then xs.getD (xs.length - 1 - i) ⟨0, 0, 0⟩ else xs.getD i ⟨0, 0, 0⟩ := by
  unfold revTo; simp [List.getD, hi]
theorem ext_getD {xs ys : List E3} (hl : xs.length = ys.length) (h : ∀ i, i < xs.length → xs.getD i ⟨0, 0, 0⟩ = ys.getD i ⟨0, 0, 0⟩) : xs = ys := by
  apply List.ext_getElem hl
  intro i h1 h2
  have := h i h1
  simpa [List.getD, h1, h2] using this
theorem revTo_0 (xs : List E3) : revTo xs 0 = xs :=
  ext_getD (revTo_len _ _) fun i hi => by rw [revTo_len] at hi; rw [revTo_get _ _ _ hi, if_neg (by omega)]
theorem getD_set (xs : List E3) (i j : Nat) (e : E3) (hi : i < xs.length) : (xs.set i e).getD j ⟨0, 0, 0⟩ = if j = i then e else xs.getD j ⟨0, 0, 0⟩ := by
  simp only [List.getD, List.getElem?_set]
  by_cases h : i = j
  · subst h; simp [hi]
  · simp [h, Ne.symm h]
theorem revTo_step (xs : List E3) {k q : Nat} (hk : k < q) (hq : q + k + 1 = xs.length) : ((revTo xs k).set k (xs.getD q ⟨0, 0, 0⟩)).set q (xs.getD k ⟨0, 0, 0⟩) = revTo xs (k + 1) := by
  refine ext_getD (by simp [revTo_len]) fun i hi => ?_
  simp only [List.length_set, revTo_len] at hi
  rw [getD_set _ _ _ _ (by simp [revTo_len]; omega), getD_set _ _ _ _ (by rw [revTo_len]; omega), revTo_get _ _ _ hi, revTo_get _ _ _ hi]
  by_cases h1 : i = q
  · subst h1; rw [if_pos rfl, if_pos (by omega), show xs.length - 1 - i = k from by omega]
  · rw [if_neg h1]
    by_cases h2 : i = k
    · subst h2; rw [if_pos rfl, if_pos (by omega), show xs.length - 1 - i = q from by omega]
    · rw [if_neg h2]
      by_cases h3 : i < k ∨ xs.length ≤ i + k
      · rw [if_pos h3, if_pos (by omega)]
      · rw [if_neg h3, if_neg (by omega)]
theorem revTo_end (xs : List E3) {k q : Nat} (hk : q ≤ k) (hq : q + k + 1 = xs.length) : revTo xs k = xs.reverse := by
  refine ext_getD (by simp [revTo_len]) fun i hi => ?_
  rw [revTo_len] at hi
  rw [revTo_get _ _ _ hi]
  have e : xs.reverse.getD i ⟨0, 0, 0⟩ = xs.getD (xs.length - 1 - i) ⟨0, 0, 0⟩ := by
    simp [List.getD, List.getElem?_reverse hi]
  rw [e]
  by_cases h3 : i < k ∨ xs.length ≤ i + k
  · rw [if_pos h3]
  · rw [if_neg h3, show xs.length - 1 - i = i from by omega]
theorem slices_Reverse_nil (v : Value) (hv : ∃ A c, v = .slice A 0 c) (w : World) :
    Calls Try.prog 87 #[v] w fun e w' => e = .returned (.tuple #[]) ∧ w = w' := by
  obtain ⟨A, c, rfl⟩ := hv
  go_enter Try.func87, Try.ntmps87
  go_wp2_with fail
  refine wp_loop_rounds 1 ?_
  rw [rounds_succ]
  go_wp2_with fail
  go_end0
  exact ⟨rfl, rfl⟩
set_option maxHeartbeats 4000000 in
theorem slices_Reverse_Gate (base g n cap : Nat) (xs : List E3) (w : World) (h : OwnG w base 96 g n cap xs) (h0 : 0 < n) (hn : n ≤ 1048576) :
    Calls Try.prog 87 #[.slice (some ⟨g, 0, none⟩) n cap] w fun e w' => e = .returned (.tuple #[]) ∧ OwnG w' base 96 g n cap xs.reverse ∧ w.grownBy w' (some g) := by
  have hl := h.len
  have HL := Lib.hid hl
  have hgs := h.lt.2
  have H := Lib.hid h
  clear h hl
  go_enter Try.func87, Try.ntmps87
  go_wp2_with fail
  go_loopw [2, 3] (fun i j wr => ∃ k q : Nat, q + k + 1 = n ∧ i = .int .i64 k ∧ j = .int .i64 q ∧ Hid (OwnG wr base 96 g n cap (revTo xs k)) ∧ Hid (w.grownBy wr (some g))) (fun i _ _ => n - (intOf i).toNat)
  case atStart => exact ⟨0, n - 1, by omega, rfl, ret_num (by omega), (show OwnG _ _ _ _ _ _ _ from by rw [revTo_0]; exact H.out), World.grownBy.refl _ _⟩
  case round =>
    obtain ⟨k, q, hq, rfl, rfl, hO, hg⟩ := hrel
    by_cases hlt : k < q
    · have hst := revTo_step xs hlt (by have := HL.out; omega)
      have e1 := revTo_get xs k k (by have := HL.out; omega)
      have e2 := revTo_get xs k q (by have := HL.out; omega)
      rw [if_neg (by have := HL.out; omega)] at e1 e2
      obtain ⟨a0, a1, a2⟩ := hO.out.cell k (by omega)
      obtain ⟨b0, b1, b2⟩ := hO.out.cell q (by omega)
      have fa0 := hO.out.frz (k * 3); have fa1 := hO.out.frz (k * 3 + 1); have fa2 := hO.out.frz (k * 3 + 2)
      have fb0 := hO.out.frz (q * 3); have fb1 := hO.out.frz (q * 3 + 1); have fb2 := hO.out.frz (q * 3 + 2)
      rw [e1] at a0 a1 a2; rw [e2] at b0 b1 b2
      obtain ⟨x, hx⟩ : ∃ x, x = xs.getD k ⟨0, 0, 0⟩ := ⟨_, rfl⟩
      obtain ⟨y, hy⟩ : ∃ y, y = xs.getD q ⟨0, 0, 0⟩ := ⟨_, rfl⟩
      rw [← hx] at a0 a1 a2 hst; rw [← hy] at b0 b1 b2 hst
      have HST := Lib.hid hst
      clear hst e1 e2 hx hy
      have i1 : (k : Int) < (q : Int) := by omega
      have i2 : (q : Int) < (n : Int) := by omega
      have i3 : (k : Int) < (n : Int) := by omega
      have i4 : (0 : Int) ≤ (k : Int) := by omega
      have i5 : (0 : Int) ≤ (q : Int) := by omega
      have K1 := Lib.hid (OwnG.set (OwnG.set hO.out k (by omega) y) q (by omega) x)
      rw [HST.out] at K1
      have G1 := Lib.hid (grown_set3 (grown_set3 hg.out hgs (k * 3) (k * 3 + 1) (k * 3 + 2) (.int .i64 y.a) (.int .i64 y.b) (.int .i64 y.c)) hgs (q * 3) (q * 3 + 1) (q * 3 + 2) (.int .i64 x.a) (.int .i64 x.b) (.int .i64 x.c))
      go_wp2_with fail
      go_region
      go_wp2_with fail
      go_roundw
      case rel => exact ⟨k + 1, q - 1, by omega, by go_num, ret_num (by omega), (show OwnG _ _ _ _ _ _ _ from OwnG.below K1.out (Below.drew (Below.refl _ _)) rfl), (show World.grownBy _ _ _ from grown_drew G1.out)⟩
      case measure => simp [intOf]; omega
    · have HE := Lib.hid (revTo_end xs (k := k) (q := q) (by omega) (by have := HL.out; omega))
      have i1 : ¬ (k : Int) < (q : Int) := by omega
      go_wp2_with fail
      go_end0
      exact ⟨rfl, by rw [← HE.out]; exact hO.out, hg.out⟩
/-- What a function that answers a circuit and 'ok' leaves. -/
def CircPost (w : World) (r : Option Circ) (e : Ending) (w' : World) : Prop :=
  ∃ u, e = .returned (.tuple #[.agg #[.int .i64 (r.getD Circ.zero).n, u], .bool r.isSome]) ∧ OwnE w' w.heap.size 96 u E3.cs 3 (r.getD Circ.zero).gs ∧ Below w.heap.size w w'
theorem CircPost.none {w w' : World} {r : Option Circ} (hr : r = none) (hb : Below w.heap.size w w') : CircPost w r (.returned (.tuple #[.agg #[.int .i64 0, .slice none 0 0], .bool false])) w' := by
  subst hr; exact ⟨_, rfl, OwnE.nil _ _ _, hb⟩
theorem CircPost.some {w w' : World} {r : Option Circ} {n : Int} {gs : List E3} {u : Value} (hr : r = some ⟨n, gs⟩) (ho : OwnE w' w.heap.size 96 u E3.cs 3 gs) (hb : Below w.heap.size w w') : CircPost w r (.returned (.tuple #[.agg #[.int .i64 n, u], .bool true])) w' := by
  subst hr; exact ⟨_, rfl, ho, hb⟩
def circIf (n : Int) (gs : List E3) : Option Circ := if circB ⟨n, gs⟩ = true then some ⟨n, gs⟩ else none
theorem circIf_len (n : Int) (gs : List E3) : ((circIf n gs).getD Circ.zero).gs.length ≤ 1000000 := by
  unfold circIf; split
  · next h =>
    have h2 : CircOk ⟨n, gs⟩ := of_decide_eq_true h
    have : gs.length ≤ 400 := h2.2.1
    simp; omega
  · simp [Circ.zero]
theorem RdE.reads {w : World} {A : Option Addr} {n c sz : Nat} {α : Type} {f : α → List Value} {xs : List α} (h : RdE w (.slice A n c) f sz xs) : Reads w w.heap.size sz A n (xs.flatMap f) := by
  rcases h.2 with ⟨⟨a, cp, e⟩, hn⟩ | ⟨b, off, cap, e, hb, h1, h2, h3⟩
  · injection e with e1 e2 e3
    subst e2
    have : xs = [] := List.eq_nil_of_length_eq_zero hn
    subst this
    exact Reads.none_
  · injection e with e1 e2 e3
    subst e1 e2
    refine ⟨h.1, fun _ => ⟨_, rfl, hb, fun j u hu => ?_⟩⟩
    rw [Addr.add_lit]; exact h3 j u hu
set_option maxHeartbeats 4000000 in
theorem impl_circuitIf_any (n : Int) (v : Value) (gs : List E3) (w : World) (h : RdE w v E3.cs 3 gs) (hl : gs.length ≤ 1048576) :
    Calls Try.prog 69 #[.int .i64 n, v] w (CircPost w (circIf n gs)) := by
  obtain ⟨i0, hi, hz0, hz1, hz2⟩ := info_parts info_Gate
  have H := Lib.hid h
  obtain ⟨A, c, rfl, _⟩ := h.form
  clear h
  cases hb : circB ⟨n, gs⟩
  all_goals
    have HB := Lib.hid hb
    have HG : Hid (circIf n gs = if circB ⟨n, gs⟩ = true then some ⟨n, gs⟩ else none) := rfl
    rw [hb] at HG
    clear hb
    go_enter Try.func69, Try.ntmps69
    have RR := Lib.hid ((RdE.reads (Rd.below H.out (show Below w.heap.size w ((w.alloc (.cells #[.int .i64 0, .slice none 0 0] 42)).alloc (.cells #[] 96)) from (by repeat (first | exact Below.refl _ _ | assumption | refine Below.drew ?_ | refine below_drewN ?_ _ | refine Below.alloc ?_ (by first | omega | (simp <;> omega)) _ | refine Below.setCell ?_ (by first | omega | (simp <;> omega)) _ | refine Below.trans ?_ (Below.mono (by assumption) (by first | omega | (simp <;> omega)))))) rfl)))
    have OO := Lib.hid (own_lit0 (f := E3.cs) (sz := 3) (w.alloc (.cells #[.int .i64 0, .slice none 0 0] 42)) (w.heap.size + 1) 96 (w.heap.size + 1) (by simp) (by omega))
    go_wp2_with (at_builtin; go_must (refine wpList_append_any _ rfl _ _ 40 rfl (w.heap.size + 1) 96 i0 (.agg #[.int .i64 0, .int .i64 0, .int .i64 0]) 3 24 Try.underlying40 hi hz0 hz1 hz2 rfl (by decide) _ 0 [] rfl OO.out _ _ gs.length _ (gs.flatMap E3.cs) rfl RR.out (flat_one E3.one gs) (by unfold maxLen; omega) (by omega) (by first | (simp; done) | (simp; omega)) ?_; intro v3 w4 hown3 hg3 hat3; (simp only [Nat.zero_add, List.nil_append] at hown3); obtain ⟨a3, c3, rfl⟩ := own_form hown3))
    replace hg3 : World.grownBy _ w4 (Value.slice (some ⟨w.heap.size + 1, 0, none⟩) 0 0).ownBlock := hg3
    have r0 : w4.cell? ⟨w.heap.size, 0, none⟩ = some (.int .i64 0) := cell_grown hg3 (by repeat (first | (refine Eq.trans (World.cell?_alloc_at _ _ _ _ ?hh) ?_; (case hh => (simp; done)); rfl) | refine cell_alloc_keep _ ?_)) (fun h => by simp [Value.ownBlock] at h)
    have r1 : w4.cell? ⟨w.heap.size, 1, none⟩ = some (.slice none 0 0) := cell_grown hg3 (by repeat (first | (refine Eq.trans (World.cell?_alloc_at _ _ _ _ ?hh) ?_; (case hh => (simp; done)); rfl) | refine cell_alloc_keep _ ?_)) (fun h => by simp [Value.ownBlock] at h)
    have f0 : w4.frozen? ⟨w.heap.size, 0, none⟩ = false := frz_grown hg3 (by first | (simp; done) | (simp; omega)) (by repeat (first | (refine World.frozen?_alloc_at _ _ _ _ ?hh; case hh => (simp; done)) | (refine frozen_alloc_lt _ ?hh ?_; case hh => first | omega | (simp <;> omega)))) (fun h => by simp [Value.ownBlock] at h)
    have f1 : w4.frozen? ⟨w.heap.size, 1, none⟩ = false := frz_grown hg3 (by first | (simp; done) | (simp; omega)) (by repeat (first | (refine World.frozen?_alloc_at _ _ _ _ ?hh; case hh => (simp; done)) | (refine frozen_alloc_lt _ ?hh ?_; case hh => first | omega | (simp <;> omega)))) (fun h => by simp [Value.ownBlock] at h)
    have b4 := Lib.hid (show Below w.heap.size w w4 from (show Below w.heap.size w ((w.alloc (.cells #[.int .i64 0, .slice none 0 0] 42)).alloc (.cells #[] 96)) from (by repeat (first | exact Below.refl _ _ | assumption | refine Below.drew ?_ | refine below_drewN ?_ _ | refine Below.alloc ?_ (by first | omega | (simp <;> omega)) _ | refine Below.setCell ?_ (by first | omega | (simp <;> omega)) _ | refine Below.trans ?_ (Below.mono (by assumption) (by first | omega | (simp <;> omega)))))).grown hg3 (by simp; omega) (fun k hk => by simp [Value.ownBlock] at hk; omega))
    have z4 := hg3.size; (simp at z4)
    have HO := Lib.hid (show OwnE w4 (w.heap.size + 1) 96 (.slice a3 gs.length c3) E3.cs 3 gs from hown3)
    clear hown3 hg3 hat3 RR OO
    (try go_wp2_with fail)
    refine (impl_IsValidCircuit_any _ ⟨n, gs⟩ _ (OwnE.below HO.out (show Below w4.heap.size w4 _ from (by repeat (first | exact Below.refl _ _ | assumption | refine Below.drew ?_ | refine below_drewN ?_ _ | refine Below.alloc ?_ (by first | omega | (simp <;> omega)) _ | refine Below.setCell ?_ (by first | omega | (simp <;> omega)) _ | refine Below.trans ?_ (Below.mono (by assumption) (by first | omega | (simp <;> omega)))))) rfl).rd hl).mono ?_; rintro e w5 ⟨rfl, hb5⟩; rw [HB.out]
    have z5 := hb5.size; (simp at z5)
    have HO5 := Lib.hid (OwnE.below (OwnE.below HO.out (show Below w4.heap.size w4 (w4.alloc (.cells #[.int .i64 n, .slice a3 gs.length c3] 42)) from (by repeat (first | exact Below.refl _ _ | assumption | refine Below.drew ?_ | refine below_drewN ?_ _ | refine Below.alloc ?_ (by first | omega | (simp <;> omega)) _ | refine Below.setCell ?_ (by first | omega | (simp <;> omega)) _ | refine Below.trans ?_ (Below.mono (by assumption) (by first | omega | (simp <;> omega)))))) rfl) hb5 rfl)
    have k0 : w5.cell? ⟨w4.heap.size, 0, none⟩ = some (.int .i64 n) := below_cell hb5 rfl (by repeat (first | (refine Eq.trans (World.cell?_alloc_at _ _ _ _ ?hh) ?_; (case hh => (simp; done)); rfl) | refine cell_alloc_keep _ ?_))
    have k1 : w5.cell? ⟨w4.heap.size, 1, none⟩ = some (.slice a3 gs.length c3) := below_cell hb5 rfl (by repeat (first | (refine Eq.trans (World.cell?_alloc_at _ _ _ _ ?hh) ?_; (case hh => (simp; done)); rfl) | refine cell_alloc_keep _ ?_))
    replace r0 := below_cell hb5 rfl (cell_alloc_keep (.cells #[.int .i64 n, .slice a3 gs.length c3] 42) r0)
    replace r1 := below_cell hb5 rfl (cell_alloc_keep (.cells #[.int .i64 n, .slice a3 gs.length c3] 42) r1)
    replace f0 := below_frz hb5 rfl (by simp; omega) (frozen_alloc_lt (.cells #[.int .i64 n, .slice a3 gs.length c3] 42) (by omega) f0)
    replace f1 := below_frz hb5 rfl (by simp; omega) (frozen_alloc_lt (.cells #[.int .i64 n, .slice a3 gs.length c3] 42) (by omega) f1)
    have b5 := Lib.hid (show Below w.heap.size w w5 from Below.trans (Below.alloc b4.out (by omega) (.cells #[.int .i64 n, .slice a3 gs.length c3] 42)) (hb5.mono (by simp; omega)))
    clear hb5 HO
    have bq := b5.out
    go_wp2_with fail
    first
      | (have hZ := box_set2 (nb := w.heap.size) (.int .i64 0) (.slice none 0 0) r0 r1
         exact bodyPost_ret (v := .tuple #[.agg #[.int .i64 0, .slice none 0 0], .bool false]) (by simp [results, Try.results69, go_sem, hZ]) rfl (CircPost.none HG.out (by repeat (first | exact Below.refl _ _ | assumption | refine Below.drew ?_ | refine below_drewN ?_ _ | refine Below.alloc ?_ (by first | omega | (simp <;> omega)) _ | refine Below.setCell ?_ (by first | omega | (simp <;> omega)) _ | refine Below.trans ?_ (Below.mono (by assumption) (by first | omega | (simp <;> omega)))))))
      | (have hZ := box_set2 (nb := w.heap.size) (.int .i64 n) (.slice a3 gs.length c3) r0 r1
         exact bodyPost_ret (v := .tuple #[.agg #[.int .i64 n, .slice a3 gs.length c3], .bool true]) (by simp [results, Try.results69, go_sem, hZ]) rfl (CircPost.some HG.out (OwnE.le (OwnE.set (OwnE.set HO5.out (by simp) _) (by simp) _) (by omega)) (by repeat (first | exact Below.refl _ _ | assumption | refine Below.drew ?_ | refine below_drewN ?_ _ | refine Below.alloc ?_ (by first | omega | (simp <;> omega)) _ | refine Below.setCell ?_ (by first | omega | (simp <;> omega)) _ | refine Below.trans ?_ (Below.mono (by assumption) (by first | omega | (simp <;> omega)))))))
end Go.Proofs.Ytfcfpojldoijlaa
