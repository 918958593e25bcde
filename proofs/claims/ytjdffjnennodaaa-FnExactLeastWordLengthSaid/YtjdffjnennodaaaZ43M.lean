/- Slices of gates that are changed in place; slices.Reverse over gates; circuitIf. -/
import Derived.Test.YtjdffjnennodaaaZ30M
import Derived.Test.YtjdffjnennodaaaZ29M
import Derived.Test.YtjdffjnennodaaaZ15Words
import Derived.Test.YtjdffjnennodaaaZ07M
import Derived.Test.YtjdffjnennodaaaZ10Two2
import Derived.BigRegion
import Derived.Deep.DeepMust
import Derived.Test.YtjdffjnennodaaaZ42Kw6
import Derived.Test.YtjdffjnennodaaaZ22Pau7
import Derived.Deep.RegionLaw
namespace Go.Proofs.Ytjdffjnennodaaa
set_option linter.unusedSimpArgs false
set_option linter.unusedVariables false
set_option linter.unnecessarySimpa false
set_option maxRecDepth 200000
open Go.ChangeShapes Go.WideShapes Go.ChangeAt Go.RowKit

/-- A list whose first and last k elements have been exchanged. -/
def revTo (xs : List E3) (k : Nat) : List E3 := (List.range xs.length).map fun i => if i < k ∨ xs.length ≤ i + k then xs.getD (xs.length - 1 - i) ⟨0, 0, 0⟩ else xs.getD i ⟨0, 0, 0⟩
theorem revTo_len (xs : List E3) (k : Nat) : (revTo xs k).length = xs.length := by simp [revTo]
theorem revTo_get (xs : List E3) (k i : Nat) (hi : i < xs.length) : (revTo xs k).getD i ⟨0, 0, 0⟩ = if i < k ∨ xs.length ≤ i + k then xs.getD (xs.length - 1 - i) ⟨0, 0, 0⟩ else xs.getD i ⟨0, 0, 0⟩ := by
  unfold revTo; simp [List.getD, hi]
theorem ext_getD {xs ys : List E3} (hl : xs.length = ys.length) (h : ∀ i, i < xs.length → xs.getD i ⟨0, 0, 0⟩ = ys.getD i ⟨0, 0, 0⟩) : xs = ys := by
  apply List.ext_getElem hl
  intro i h1 h2
  have := h i h1
  simpa [List.getD, h1, h2] using this
theorem revTo_0 (xs : List E3) : revTo xs 0 = xs :=
  ext_getD (revTo_len _ _) fun i hi => by rw [revTo_len] at hi; rw [revTo_get _ _ _ hi, if_neg (by omega)]
theorem getD_set (xs : List E3) (i j : Nat) (e : E3) (hi : i < xs.length) : (xs.set i e).getD j ⟨0, 0, 0⟩ = if j = i then e else xs.getD j ⟨0, 0, 0⟩ := by
  simp only [List.getD, List.getElem?_set]
  by_cases h : i = j
  · subst h; simp [hi]
  · simp [h, Ne.symm h]
theorem revTo_step (xs : List E3) {k q : Nat} (hk : k < q) (hq : q + k + 1 = xs.length) : ((revTo xs k).set k (xs.getD q ⟨0, 0, 0⟩)).set q (xs.getD k ⟨0, 0, 0⟩) = revTo xs (k + 1) := by
  refine ext_getD (by simp [revTo_len]) fun i hi => ?_
  simp only [List.length_set, revTo_len] at hi
  rw [getD_set _ _ _ _ (by simp [revTo_len]; omega), getD_set _ _ _ _ (by rw [revTo_len]; omega), revTo_get _ _ _ hi, revTo_get _ _ _ hi]
  by_cases h1 : i = q
  · subst h1; rw [if_pos rfl, if_pos (by omega), show xs.length - 1 - i = k from by omega]
  · rw [if_neg h1]
    by_cases h2 : i = k
    · subst h2; rw [if_pos rfl, if_pos (by omega), show xs.length - 1 - i = q from by omega]
    · rw [if_neg h2]
      by_cases h3 : i < k ∨ xs.length ≤ i + k
      · rw [if_pos h3, if_pos (by omega)]
      · rw [if_neg h3, if_neg (by omega)]
theorem revTo_end (xs : List E3) {k q : Nat} (hk : q ≤ k) (hq : q + k + 1 = xs.length) : revTo xs k = xs.reverse := by
  refine ext_getD (by simp [revTo_len]) fun i hi => ?_
  rw [revTo_len] at hi
  rw [revTo_get _ _ _ hi]
  have e : xs.reverse.getD i ⟨0, 0, 0⟩ = xs.getD (xs.length - 1 - i) ⟨0, 0, 0⟩ := by
    simp [List.getD, List.getElem?_reverse hi]
  rw [e]
  by_cases h3 : i < k ∨ xs.length ≤ i + k
  · rw [if_pos h3]
  · rw [if_neg h3, show xs.length - 1 - i = i from by omega]
/-- What a function that answers a circuit and 'ok' leaves. -/
def CircPost (w : World) (r : Option Circ) (e : Ending) (w' : World) : Prop :=
  ∃ u, e = .returned (.tuple #[.agg #[.int .i64 (r.getD Circ.zero).n, u], .bool r.isSome]) ∧ OwnE w' w.heap.size 57 u E3.cs 3 (r.getD Circ.zero).gs ∧ Below w.heap.size w w'
theorem CircPost.none {w w' : World} {r : Option Circ} (hr : r = none) (hb : Below w.heap.size w w') : CircPost w r (.returned (.tuple #[.agg #[.int .i64 0, .slice none 0 0], .bool false])) w' := by
  subst hr; exact ⟨_, rfl, OwnE.nil _ _ _, hb⟩
theorem CircPost.some {w w' : World} {r : Option Circ} {n : Int} {gs : List E3} {u : Value} (hr : r = some ⟨n, gs⟩) (ho : OwnE w' w.heap.size 57 u E3.cs 3 gs) (hb : Below w.heap.size w w') : CircPost w r (.returned (.tuple #[.agg #[.int .i64 n, u], .bool true])) w' := by
  subst hr; exact ⟨_, rfl, ho, hb⟩
def circIf (n : Int) (gs : List E3) : Option Circ := if circB ⟨n, gs⟩ = true then some ⟨n, gs⟩ else none
theorem circIf_len (n : Int) (gs : List E3) : ((circIf n gs).getD Circ.zero).gs.length ≤ 1000000 := by
  unfold circIf; split
  · next h =>
    have h2 : CircOk ⟨n, gs⟩ := of_decide_eq_true h
    have : gs.length ≤ 400 := h2.2.1
    simp; omega
  · simp [Circ.zero]
theorem RdE.reads {w : World} {A : Option Addr} {n c sz : Nat} {α : Type} {f : α → List Value} {xs : List α} (h : RdE w (.slice A n c) f sz xs) : Reads w w.heap.size sz A n (xs.flatMap f) := by
  rcases h.2 with ⟨⟨a, cp, e⟩, hn⟩ | ⟨b, off, cap, e, hb, h1, h2, h3⟩
  · injection e with e1 e2 e3
    subst e2
    have : xs = [] := List.eq_nil_of_length_eq_zero hn
    subst this
    exact Reads.none_
  · injection e with e1 e2 e3
    subst e1 e2
    refine ⟨h.1, fun _ => ⟨_, rfl, hb, fun j u hu => ?_⟩⟩
    rw [Addr.add_lit]; exact h3 j u hu
set_option maxHeartbeats 4000000 in
theorem impl_circuitIf_any (n : Int) (v : Value) (gs : List E3) (w : World) (h : RdE w v E3.cs 3 gs) (hl : gs.length ≤ 1048576) :
    Calls Try.prog 22 #[.int .i64 n, v] w (CircPost w (circIf n gs)) := by
  obtain ⟨i0, hi, hz0, hz1, hz2⟩ := info_parts info_Gate
  have H := Lib.hid h
  obtain ⟨A, c, rfl, _⟩ := h.form
  clear h
  cases hb : circB ⟨n, gs⟩
  all_goals
    have HB := Lib.hid hb
    have HG : Hid (circIf n gs = if circB ⟨n, gs⟩ = true then some ⟨n, gs⟩ else none) := rfl
    rw [hb] at HG
    clear hb
    go_enter Try.func22, Try.ntmps22
    have RR := Lib.hid ((RdE.reads (Rd.below H.out (show Below w.heap.size w ((w.alloc (.cells #[.int .i64 0, .slice none 0 0] 36)).alloc (.cells #[] 57)) from (by repeat (first | exact Below.refl _ _ | assumption | refine Below.drew ?_ | refine below_drewN ?_ _ | refine Below.alloc ?_ (by first | omega | (simp <;> omega)) _ | refine Below.setCell ?_ (by first | omega | (simp <;> omega)) _ | refine Below.trans ?_ (Below.mono (by assumption) (by first | omega | (simp <;> omega)))))) rfl)))
    have OO := Lib.hid (own_lit0 (f := E3.cs) (sz := 3) (w.alloc (.cells #[.int .i64 0, .slice none 0 0] 36)) (w.heap.size + 1) 57 (w.heap.size + 1) (by simp) (by omega))
    go_wp2_with (at_builtin; go_must (refine wpList_append_any _ rfl _ _ 34 rfl (w.heap.size + 1) 57 i0 (.agg #[.int .i64 0, .int .i64 0, .int .i64 0]) 3 24 Try.underlying34 hi hz0 hz1 hz2 rfl (by decide) _ 0 [] rfl OO.out _ _ gs.length _ (gs.flatMap E3.cs) rfl RR.out (flat_one E3.one gs) (by unfold maxLen; omega) (by omega) (by first | (simp; done) | (simp; omega)) ?_; intro v3 w4 hown3 hg3 hat3; (simp only [Nat.zero_add, List.nil_append] at hown3); obtain ⟨a3, c3, rfl⟩ := own_form hown3))
    replace hg3 : World.grownBy _ w4 (Value.slice (some ⟨w.heap.size + 1, 0, none⟩) 0 0).ownBlock := hg3
    have r0 : w4.cell? ⟨w.heap.size, 0, none⟩ = some (.int .i64 0) := cell_grown hg3 (by repeat (first | (refine Eq.trans (World.cell?_alloc_at _ _ _ _ ?hh) ?_; (case hh => (simp; done)); rfl) | refine cell_alloc_keep _ ?_)) (fun h => by simp [Value.ownBlock] at h)
    have r1 : w4.cell? ⟨w.heap.size, 1, none⟩ = some (.slice none 0 0) := cell_grown hg3 (by repeat (first | (refine Eq.trans (World.cell?_alloc_at _ _ _ _ ?hh) ?_; (case hh => (simp; done)); rfl) | refine cell_alloc_keep _ ?_)) (fun h => by simp [Value.ownBlock] at h)
    have f0 : w4.frozen? ⟨w.heap.size, 0, none⟩ = false := frz_grown hg3 (by first | (simp; done) | (simp; omega)) (by repeat (first | (refine World.frozen?_alloc_at _ _ _ _ ?hh; case hh => (simp; done)) | (refine frozen_alloc_lt _ ?hh ?_; case hh => first | omega | (simp <;> omega)))) (fun h => by simp [Value.ownBlock] at h)
    have f1 : w4.frozen? ⟨w.heap.size, 1, none⟩ = false := frz_grown hg3 (by first | (simp; done) | (simp; omega)) (by repeat (first | (refine World.frozen?_alloc_at _ _ _ _ ?hh; case hh => (simp; done)) | (refine frozen_alloc_lt _ ?hh ?_; case hh => first | omega | (simp <;> omega)))) (fun h => by simp [Value.ownBlock] at h)
    have b4 := Lib.hid (show Below w.heap.size w w4 from (show Below w.heap.size w ((w.alloc (.cells #[.int .i64 0, .slice none 0 0] 36)).alloc (.cells #[] 57)) from (by repeat (first | exact Below.refl _ _ | assumption | refine Below.drew ?_ | refine below_drewN ?_ _ | refine Below.alloc ?_ (by first | omega | (simp <;> omega)) _ | refine Below.setCell ?_ (by first | omega | (simp <;> omega)) _ | refine Below.trans ?_ (Below.mono (by assumption) (by first | omega | (simp <;> omega)))))).grown hg3 (by simp; omega) (fun k hk => by simp [Value.ownBlock] at hk; omega))
    have z4 := hg3.size; (simp at z4)
    have HO := Lib.hid (show OwnE w4 (w.heap.size + 1) 57 (.slice a3 gs.length c3) E3.cs 3 gs from hown3)
    clear hown3 hg3 hat3 RR OO
    (try go_wp2_with fail)
    refine (impl_IsValidCircuit_any _ ⟨n, gs⟩ _ (OwnE.below HO.out (show Below w4.heap.size w4 _ from (by repeat (first | exact Below.refl _ _ | assumption | refine Below.drew ?_ | refine below_drewN ?_ _ | refine Below.alloc ?_ (by first | omega | (simp <;> omega)) _ | refine Below.setCell ?_ (by first | omega | (simp <;> omega)) _ | refine Below.trans ?_ (Below.mono (by assumption) (by first | omega | (simp <;> omega)))))) rfl).rd hl).mono ?_; rintro e w5 ⟨rfl, hb5⟩; rw [HB.out]
    have z5 := hb5.size; (simp at z5)
    have HO5 := Lib.hid (OwnE.below (OwnE.below HO.out (show Below w4.heap.size w4 (w4.alloc (.cells #[.int .i64 n, .slice a3 gs.length c3] 36)) from (by repeat (first | exact Below.refl _ _ | assumption | refine Below.drew ?_ | refine below_drewN ?_ _ | refine Below.alloc ?_ (by first | omega | (simp <;> omega)) _ | refine Below.setCell ?_ (by first | omega | (simp <;> omega)) _ | refine Below.trans ?_ (Below.mono (by assumption) (by first | omega | (simp <;> omega)))))) rfl) hb5 rfl)
    have k0 : w5.cell? ⟨w4.heap.size, 0, none⟩ = some (.int .i64 n) := below_cell hb5 rfl (by repeat (first | (refine Eq.trans (World.cell?_alloc_at _ _ _ _ ?hh) ?_; (case hh => (simp; done)); rfl) | refine cell_alloc_keep _ ?_))
    have k1 : w5.cell? ⟨w4.heap.size, 1, none⟩ = some (.slice a3 gs.length c3) := below_cell hb5 rfl (by repeat (first | (refine Eq.trans (World.cell?_alloc_at _ _ _ _ ?hh) ?_; (case hh => (simp; done)); rfl) | refine cell_alloc_keep _ ?_))
    replace r0 := below_cell hb5 rfl (cell_alloc_keep (.cells #[.int .i64 n, .slice a3 gs.length c3] 36) r0)
    replace r1 := below_cell hb5 rfl (cell_alloc_keep (.cells #[.int .i64 n, .slice a3 gs.length c3] 36) r1)
    replace f0 := below_frz hb5 rfl (by simp; omega) (frozen_alloc_lt (.cells #[.int .i64 n, .slice a3 gs.length c3] 36) (by omega) f0)
    replace f1 := below_frz hb5 rfl (by simp; omega) (frozen_alloc_lt (.cells #[.int .i64 n, .slice a3 gs.length c3] 36) (by omega) f1)
    have b5 := Lib.hid (show Below w.heap.size w w5 from Below.trans (Below.alloc b4.out (by omega) (.cells #[.int .i64 n, .slice a3 gs.length c3] 36)) (hb5.mono (by simp; omega)))
    clear hb5 HO
    have bq := b5.out
    go_wp2_with fail
    first
      | (have hZ := box_set2 (nb := w.heap.size) (.int .i64 0) (.slice none 0 0) r0 r1
         exact bodyPost_ret (v := .tuple #[.agg #[.int .i64 0, .slice none 0 0], .bool false]) (by simp [results, Try.results22, go_sem, hZ]) rfl (CircPost.none HG.out (by repeat (first | exact Below.refl _ _ | assumption | refine Below.drew ?_ | refine below_drewN ?_ _ | refine Below.alloc ?_ (by first | omega | (simp <;> omega)) _ | refine Below.setCell ?_ (by first | omega | (simp <;> omega)) _ | refine Below.trans ?_ (Below.mono (by assumption) (by first | omega | (simp <;> omega)))))))
      | (have hZ := box_set2 (nb := w.heap.size) (.int .i64 n) (.slice a3 gs.length c3) r0 r1
         exact bodyPost_ret (v := .tuple #[.agg #[.int .i64 n, .slice a3 gs.length c3], .bool true]) (by simp [results, Try.results22, go_sem, hZ]) rfl (CircPost.some HG.out (OwnE.le (OwnE.set (OwnE.set HO5.out (by simp) _) (by simp) _) (by omega)) (by repeat (first | exact Below.refl _ _ | assumption | refine Below.drew ?_ | refine below_drewN ?_ _ | refine Below.alloc ?_ (by first | omega | (simp <;> omega)) _ | refine Below.setCell ?_ (by first | omega | (simp <;> omega)) _ | refine Below.trans ?_ (Below.mono (by assumption) (by first | omega | (simp <;> omega)))))))
end Go.Proofs.Ytjdffjnennodaaa
namespace Go.Proofs.Ytjdffjnennodaaa
set_option linter.unusedSimpArgs false
set_option linter.unusedVariables false
set_option linter.unnecessarySimpa false
set_option maxRecDepth 200000
open Go.ChangeShapes Go.WideShapes Go.ChangeAt Go.RowKit Go.Maps

theorem min_ex {T : Type} {st : T → Nat → T} {e : T} {K : Nat} (hK : K ≤ 8) {t : T} (u : List Nat) (hu : VW K u) (he : evW st e u = t) : ∃ w, MinW st e K t w ∧ w.length ≤ u.length := by
  by_cases h : ∃ v, VW K v ∧ evW st e v = t ∧ cv v < cv u
  · obtain ⟨v, hv, hve, hlt⟩ := h
    obtain ⟨w, hw, hl⟩ := min_ex hK v hv hve
    exact ⟨w, hw, Nat.le_trans hl (len_of_cv hK hv hu (Nat.le_of_lt hlt))⟩
  · exact ⟨u, ⟨hu, he, fun v hv hve => Nat.le_of_not_lt fun hlt => h ⟨v, hv, hve, hlt⟩⟩, Nat.le_refl _⟩
termination_by cv u
theorem LW.ex {T : Type} {st : T → Nat → T} {e : T} {K : Nat} (hK : K ≤ 8) (t : T) : ∃ r, LW st e K t r := by
  by_cases hx : ∃ u, VW K u ∧ u.length ≤ 12 ∧ evW st e u = t
  · obtain ⟨u, hu, hl, he⟩ := hx
    obtain ⟨w, hw, hwl⟩ := min_ex hK u hu he
    exact ⟨_, LW.found hw (by omega)⟩
  · exact ⟨none, fun w hw => (by cases hw), fun _ u hu hd he => hx ⟨u, hu, hd, he⟩⟩
/-- The tableau's images. -/
def tabT (d : Tab) : TT := (d.xs.map tn, d.zs.map tn)
/-- What LeastWord answers. -/
noncomputable def lwG (d : Tab) : Option Circ := if TabOk d ∧ d.n ≤ 2 then (lwOf (stT d.n.toNat) (idT2 d.n.toNat) (KK d.n.toNat) (tabT d)).map fun wd => ⟨d.n, gts d.n.toNat wd⟩ else none
theorem LWT.few {n : Nat} {t : TT} {wd : List Nat} (h : LWT n t (some wd)) : VW (KK n) wd ∧ wd.length ≤ 12 := by
  obtain ⟨h1, h2⟩ := h.1 wd rfl
  exact ⟨h1.vw, h2⟩
theorem word_ok {n : Nat} (h1 : 1 ≤ n) (h2 : n ≤ 2) {wd : List Nat} (h : VW (KK n) wd) (hl : wd.length ≤ 12) : CircOk ⟨(n : Int), gts n wd⟩ := by
  refine ⟨⟨by dsimp only; omega, by dsimp only; omega⟩, by simp [gts]; omega, fun g hg => ?_⟩
  obtain ⟨q, hq, rfl⟩ := List.mem_map.1 hg
  have hk := ltr_ok h1 h2 (h q hq)
  have k0 := hk.kind; have ka := hk.la; have kb := hk.lb
  unfold GateOk gte
  dsimp only
  omega
theorem lwG_parts {d : Tab} (ht : TabOk d) (hn : d.n ≤ 2) : ∃ n : Nat, d.n = (n : Int) ∧ 1 ≤ n ∧ n ≤ 2 ∧ SymT n (tabT d) ∧ d.xs = pes (tabT d).1 ∧ d.zs = pes (tabT d).2 := by
  obtain ⟨m, hm, m1, m5, ex, ez, _⟩ := ht.parts
  exact ⟨m, hm, m1, by omega, ht.sym hm, ex, ez⟩
theorem lwG_of {d : Tab} (ht : TabOk d) (hn : d.n ≤ 2) {n : Nat} (hm : d.n = (n : Int)) {r : Option (List Nat)} (h : LWT n (tabT d) r) : lwG d = r.map fun wd => ⟨(n : Int), gts n wd⟩ := by
  unfold lwG
  rw [if_pos ⟨ht, hn⟩, hm, Int.toNat_natCast, ← LW.eq (K8 n) h]
theorem lwG_no {d : Tab} (h : ¬ (TabOk d ∧ d.n ≤ 2)) : lwG d = none := if_neg h
theorem lwG_len (d : Tab) : ((lwG d).getD Circ.zero).gs.length ≤ 12 := by
  by_cases h : TabOk d ∧ d.n ≤ 2
  · obtain ⟨n, hm, h1, h2, _⟩ := lwG_parts h.1 h.2
    obtain ⟨r, hr⟩ := LW.ex (st := stT n) (e := idT2 n) (K8 n) (tabT d)
    rw [lwG_of h.1 h.2 hm hr]
    cases r with
    | none => simp [Circ.zero]
    | some wd => have := (LWT.few hr).2; simpa [gts] using this
  · rw [lwG_no h]; simp [Circ.zero]
set_option maxHeartbeats 4000000 in
theorem impl_LeastWord_any (d : Tab) (v0 v1 : Value) (w : World) (h0 : RdE w v0 E3.cs 3 d.xs) (h1 : RdE w v1 E3.cs 3 d.zs) (n0 : d.xs.length ≤ 1048576) (n1 : d.zs.length ≤ 1048576) :
    Calls Try.prog 11 #[.agg #[.int .i64 d.n, v0, v1]] w (CircPost w (lwG d)) := by
  obtain ⟨dn, xs, zs⟩ := d
  dsimp only at h0 h1 n0 n1 ⊢
  have H0 := Lib.hid h0; have H1 := Lib.hid h1
  obtain ⟨A, c, rfl, _⟩ := h0.form
  obtain ⟨A2, c2, rfl, _⟩ := h1.form
  clear h0 h1
  have X := Lib.hid (((Sb.nil w).push [.int .i64 dn, .slice A xs.length c, .slice A2 zs.length c2] 30 rfl).push [.int .i64 0, .slice none 0 0] 36 (g := w.heap.size + 1) (by simp))
  have HV := Lib.hid (fun W h h' => impl_IsValidTableau_any ⟨dn, xs, zs⟩ (.slice A xs.length c) (.slice A2 zs.length c2) W h h' n0 n1)
  by_cases ht : TabOk ⟨dn, xs, zs⟩
  · have HT := Lib.hid (show tabB ⟨dn, xs, zs⟩ = true from decide_eq_true ht)
    by_cases hn : dn ≤ 2
    · obtain ⟨n, hm, k1, k2, hs, ex, ez⟩ := lwG_parts ht hn
      dsimp only at hm
      subst hm
      have HG := Lib.hid (fun r h => lwG_of ht hn rfl (r := r) h)
      have HS := Lib.hid hs
      have HX := Lib.hid (show RdE w (.slice A xs.length c) E3.cs 3 (pes (tabT ⟨(n : Int), xs, zs⟩).1) from by rw [← ex]; exact H0.out)
      have HZ := Lib.hid (show RdE w (.slice A2 zs.length c2) E3.cs 3 (pes (tabT ⟨(n : Int), xs, zs⟩).2) from by rw [← ez]; exact H1.out)
      have i1 : ¬ (2 : Int) < (n : Int) := by omega
      generalize tabT ⟨(n : Int), xs, zs⟩ = t at *
      generalize lwG ⟨(n : Int), xs, zs⟩ = r9 at *
      clear ht hs ex ez
      go_enter Try.func11, Try.ntmps11
      go_wp2_with fail
      refine (HV.out _ (Rd.below H0.out X.out.bel rfl) (Rd.below H1.out X.out.bel rfl)).mono ?_; rintro e w1 ⟨rfl, hb1⟩; rw [HT.out]
      replace X := Lib.hid (X.out.call hb1)
      clear hb1 HV HT H0 H1
      obtain ⟨⟨a0, a1⟩, f0, f1⟩ := X.out.head.c2
      obtain ⟨⟨b0, b1, b2⟩, -⟩ := (X.out.at 1 rfl).c3
      go_wp2_with fail
      refine (impl_leastWord_any n k1 k2 t HS.out _ _ _ (RdE.below HX.out X.out.bel rfl) (RdE.below HZ.out X.out.bel rfl)).mono ?_
      rintro e w2 ⟨⟨u, b, r, rfl, hr, hcase⟩, hb2⟩
      replace X := Lib.hid (X.out.call hb2)
      clear a0 a1 f0 f1 b0 b1 b2 hb2
      obtain ⟨⟨a0, a1⟩, f0, f1⟩ := X.out.head.c2
      obtain ⟨⟨b0, b1, b2⟩, -⟩ := (X.out.at 1 rfl).c3
      have HG9 := Lib.hid (HG.out r hr)
      clear HG
      rcases hcase with ⟨rfl, rfl⟩ | ⟨wd, rfl, rfl, ho⟩
      · clear hr
        have HGN := Lib.hid (show r9 = none from HG9.out)
        have X9 := Lib.hid ((X.out.set0 0 (.int .i64 0)).set0 1 (.slice none 0 0))
        obtain ⟨⟨c0, c1⟩, -⟩ := X9.out.head.c2
        go_wp2_with fail
        exact bodyPost_ret (v := .tuple #[.agg #[.int .i64 0, .slice none 0 0], .bool false]) (by simp [results, Try.results11, go_sem, c0, c1]) rfl (CircPost.none HGN.out X9.out.bel)
      · have HL := LWT.few hr
        clear hr
        have HC : circIf (n : Int) (gts n wd) = some ⟨(n : Int), gts n wd⟩ := by unfold circIf circB; rw [if_pos (decide_eq_true (word_ok k1 k2 HL.1 HL.2))]
        have HGN := Lib.hid (show r9 = some ⟨(n : Int), gts n wd⟩ from HG9.out)
        have hrd : RdE w2 u E3.cs 3 (gts n wd) := by
          rw [← show (gts n wd).length = wd.length from by simp [gts]] at ho
          exact OwnE.rd (base := 0) ho
        have hc := impl_circuitIf_any (n : Int) u (gts n wd) w2 hrd (by simp [gts]; omega)
        rw [HC] at hc
        have HC9 := Lib.hid hc
        clear hc HC hrd ho HL HG9
        go_wp2_with fail
        refine HC9.out.mono ?_; rintro e w3 ⟨u3, rfl, ho3, hb3⟩
        dsimp only [Option.getD_some, Option.isSome_some] at ho3 ⊢
        obtain ⟨a3, c3, rfl⟩ := ho3.forms
        generalize gts n wd = G at *
        have L2 := X.out.head.lt
        replace X := Lib.hid (X.out.call hb3)
        have HO3 := Lib.hid (OwnE.le ho3 (base' := w.heap.size + 2) (by omega))
        clear a0 a1 f0 f1 b0 b1 b2 hb3 HC9 ho3
        obtain ⟨⟨a0, a1⟩, f0, f1⟩ := X.out.head.c2
        obtain ⟨⟨b0, b1, b2⟩, -⟩ := (X.out.at 1 rfl).c3
        have X9 := Lib.hid ((X.out.set0 0 (.int .i64 (n : Int))).set0 1 (.slice a3 G.length c3))
        obtain ⟨⟨c0, c1⟩, -⟩ := X9.out.head.c2
        go_wp2_with fail
        exact bodyPost_ret (v := .tuple #[.agg #[.int .i64 (n : Int), .slice a3 G.length c3], .bool true]) (by simp [results, Try.results11, go_sem, c0, c1]) rfl (CircPost.some HGN.out (OwnE.le (OwnE.set (OwnE.set HO3.out (by dsimp only; omega) _) (by dsimp only; omega) _) (by omega)) X9.out.bel)
    · have HGN := Lib.hid (lwG_no (d := ⟨dn, xs, zs⟩) (fun h => hn h.2))
      have i1 : (2 : Int) < dn := by omega
      generalize lwG ⟨dn, xs, zs⟩ = r9 at *
      go_enter Try.func11, Try.ntmps11
      go_wp2_with fail
      refine (HV.out _ (Rd.below H0.out X.out.bel rfl) (Rd.below H1.out X.out.bel rfl)).mono ?_; rintro e w1 ⟨rfl, hb1⟩; rw [HT.out]
      replace X := Lib.hid (X.out.call hb1)
      clear hb1 HV HT H0 H1
      obtain ⟨⟨a0, a1⟩, f0, f1⟩ := X.out.head.c2
      obtain ⟨⟨b0, b1, b2⟩, -⟩ := (X.out.at 1 rfl).c3
      have X9 := Lib.hid ((X.out.set0 0 (.int .i64 0)).set0 1 (.slice none 0 0))
      obtain ⟨⟨c0, c1⟩, -⟩ := X9.out.head.c2
      go_wp2_with fail
      exact bodyPost_ret (v := .tuple #[.agg #[.int .i64 0, .slice none 0 0], .bool false]) (by simp [results, Try.results11, go_sem, c0, c1]) rfl (CircPost.none HGN.out X9.out.bel)
  · have HGN := Lib.hid (lwG_no (d := ⟨dn, xs, zs⟩) (fun h => ht h.1))
    have HT := Lib.hid (show tabB ⟨dn, xs, zs⟩ = false from decide_eq_false ht)
    generalize lwG ⟨dn, xs, zs⟩ = r9 at *
    go_enter Try.func11, Try.ntmps11
    go_wp2_with fail
    refine (HV.out _ (Rd.below H0.out X.out.bel rfl) (Rd.below H1.out X.out.bel rfl)).mono ?_; rintro e w1 ⟨rfl, hb1⟩; rw [HT.out]
    replace X := Lib.hid (X.out.call hb1)
    clear hb1 HV HT H0 H1
    obtain ⟨⟨a0, a1⟩, f0, f1⟩ := X.out.head.c2
    obtain ⟨⟨b0, b1, b2⟩, -⟩ := (X.out.at 1 rfl).c3
    have X9 := Lib.hid ((X.out.set0 0 (.int .i64 0)).set0 1 (.slice none 0 0))
    obtain ⟨⟨c0, c1⟩, -⟩ := X9.out.head.c2
    go_wp2_with fail
    exact bodyPost_ret (v := .tuple #[.agg #[.int .i64 0, .slice none 0 0], .bool false]) (by simp [results, Try.results11, go_sem, c0, c1]) rfl (CircPost.none HGN.out X9.out.bel)
theorem impl_LeastWordLength_any (d : Tab) (v0 v1 : Value) (w : World) (h0 : RdE w v0 E3.cs 3 d.xs) (h1 : RdE w v1 E3.cs 3 d.zs) (n0 : d.xs.length ≤ 1048576) (n1 : d.zs.length ≤ 1048576) :
    Calls Try.prog 8 #[.agg #[.int .i64 d.n, v0, v1]] w fun e w' => e = .returned (.tuple #[.int .i64 (((lwG d).getD Circ.zero).gs.length : Int), .bool (lwG d).isSome]) ∧ Below w.heap.size w w' := by
  have HL := Lib.hid (lwG_len d)
  have HV := Lib.hid (fun W h h' => impl_LeastWord_any d v0 v1 W h h' n0 n1)
  obtain ⟨dn, xs, zs⟩ := d
  dsimp only at h0 h1 n0 n1 HV ⊢
  have H0 := Lib.hid h0; have H1 := Lib.hid h1
  obtain ⟨A, c, rfl, _⟩ := h0.form
  obtain ⟨A2, c2, rfl, _⟩ := h1.form
  clear h0 h1
  generalize lwG ⟨dn, xs, zs⟩ = r9 at *
  have X := Lib.hid ((Sb.nil w).push [.int .i64 dn, .slice A xs.length c, .slice A2 zs.length c2] 30 rfl)
  go_enter Try.func8, Try.ntmps8
  go_wp2_with fail
  refine (HV.out _ (Rd.below H0.out X.out.bel rfl) (Rd.below H1.out X.out.bel rfl)).mono ?_; rintro e w1 ⟨u, rfl, ho, hb1⟩
  replace X := Lib.hid (X.out.call hb1)
  obtain ⟨a3, c3, rfl⟩ := ho.forms
  have HLL := HL.out
  clear hb1 HV H0 H1 ho
  have bw := X.out.bel
  go_wp2_with fail
  exact bodyPost_ret (v := .tuple #[.int .i64 ((r9.getD Circ.zero).gs.length : Int), .bool r9.isSome]) (by simp [results, Try.results8, go_sem]) rfl ⟨rfl, (X.out.alloc _).bel⟩
end Go.Proofs.Ytjdffjnennodaaa
namespace Go.Proofs.Ytjdffjnennodaaa
set_option linter.unusedSimpArgs false
set_option linter.unusedVariables false
set_option linter.unnecessarySimpa false
set_option maxRecDepth 200000
open Go.ChangeShapes Go.WideShapes Go.ChangeAt Go.RowKit Go.Maps

theorem own_litW {base g sz m n : Nat} {us xs : List Value} (w : World) (t : TypeId) (hg : w.heap.size = g) (hb : base ≤ g) (hl : us.length = n * sz) (hn : n ≤ 1000) (hm : m ≤ n) (hx : us.take (m * sz) = xs) (hxl : xs.length = m * sz) :
    (w.alloc (.cells us.toArray t)).ownsRow base t sz (.slice (some ⟨g, 0, none⟩) m n) m xs := by
  subst hg
  refine ⟨hxl, .inr ⟨w.heap.size, n, us.toArray, rfl, hb, ?_, hm, by unfold maxLen; omega, by simp [hl], by simpa using hx⟩⟩
  show (w.heap.push _)[w.heap.size]? = _
  simp
theorem spec_l8Words_any (n : Nat) (h1 : 1 ≤ n) (h2 : n ≤ 2) (w : World) :
    Calls Try.prog 30 #[.int .i64 (n : Int)] w fun e w' => ∃ A c, e = .returned (.slice A (KK n) c) ∧ w'.ownsRow w.heap.size 57 3 (.slice A (KK n) c) (KK n) ((gls n).flatMap E3.cs) ∧ Below w.heap.size w w' := by
  rcases (show n = 1 ∨ n = 2 by omega) with rfl | rfl
  · go_enter Try.func30, Try.ntmps30
    go_wp2_with fail
    go_ret
    refine ⟨_, _, rfl, own_litW (n := 6) (m := 2) (us := [.int .i64 1, .int .i64 0, .int .i64 0, .int .i64 5, .int .i64 0, .int .i64 0, .int .i64 1, .int .i64 1, .int .i64 0, .int .i64 5, .int .i64 1, .int .i64 0, .int .i64 9, .int .i64 0, .int .i64 1, .int .i64 9, .int .i64 1, .int .i64 0]) w 57 rfl (Nat.le_refl _) rfl (by omega) (by omega) rfl rfl, (by repeat (first | exact Below.refl _ _ | assumption | refine Below.drew ?_ | refine below_drewN ?_ _ | refine Below.alloc ?_ (by first | omega | (simp <;> omega)) _ | refine Below.setCell ?_ (by first | omega | (simp <;> omega)) _ | refine Below.trans ?_ (Below.mono (by assumption) (by first | omega | (simp <;> omega)))))⟩
  · go_enter Try.func30, Try.ntmps30
    go_wp2_with fail
    go_ret
    refine ⟨_, _, rfl, own_litW (n := 6) (m := 6) (us := [.int .i64 1, .int .i64 0, .int .i64 0, .int .i64 5, .int .i64 0, .int .i64 0, .int .i64 1, .int .i64 1, .int .i64 0, .int .i64 5, .int .i64 1, .int .i64 0, .int .i64 9, .int .i64 0, .int .i64 1, .int .i64 9, .int .i64 1, .int .i64 0]) w 57 rfl (Nat.le_refl _) rfl (by omega) (by omega) rfl rfl, (by repeat (first | exact Below.refl _ _ | assumption | refine Below.drew ?_ | refine below_drewN ?_ _ | refine Below.alloc ?_ (by first | omega | (simp <;> omega)) _ | refine Below.setCell ?_ (by first | omega | (simp <;> omega)) _ | refine Below.trans ?_ (Below.mono (by assumption) (by first | omega | (simp <;> omega)))))⟩
end Go.Proofs.Ytjdffjnennodaaa
