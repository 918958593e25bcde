/- AppendCX in the program and in the reference. -/
import Derived.Test.YtdgghpbcinmbhaaLin3
import Derived.Test.YtdgghpbcinmbhaaGate1
namespace Go.Proofs.Ytdgghpbcinmbhaa
set_option linter.unusedSimpArgs false
set_option linter.unusedVariables false
set_option linter.unnecessarySimpa false
set_option maxRecDepth 200000
open Go.ChangeShapes Go.WideShapes Go.ChangeAt Go.RowKit

def AddOk (zs : List Int) (a b : Int) : Prop := (0 ≤ a ∧ a ≤ (zs.length : Int) - 1) ∧ (0 ≤ b ∧ b ≤ (zs.length : Int) - 1) ∧ a ≠ b
instance (zs : List Int) (a b : Int) : Decidable (AddOk zs a b) := by unfold AddOk; infer_instance
noncomputable def addG (zs : List Int) (a b : Int) : Option (List Int) := if LinOk zs ∧ AddOk zs a b then some (ints (cxN (zs.map Int.toNat) a.toNat b.toNat)) else none
theorem addG_none {zs : List Int} {a b : Int} (h : LinOk zs → ¬ AddOk zs a b) : addG zs a b = none := if_neg fun k => h k.1 k.2
theorem addG_some {zs : List Int} {a b : Int} (h : LinOk zs) (k : AddOk zs a b) : addG zs a b = some (ints (cxN (zs.map Int.toNat) a.toNat b.toNat)) := if_pos ⟨h, k⟩
theorem addG_len (zs : List Int) (a b : Int) : ((addG zs a b).getD []).length ≤ 1000000 := by
  unfold addG
  split
  · next h => simp [ints_len, cxN_len]; have := h.1.1; omega
  · simp
theorem LinPost.none {w w' : World} {r : Option (List Int)} (hr : r = none) (hb : Below w.heap.size w w') : LinPost w r (.returned (.tuple #[.agg #[.slice none 0 0], .bool false])) w' := by
  subst hr; exact ⟨_, rfl, own_nil _ _, hb⟩
theorem LinPost.some {w w' : World} {r : Option (List Int)} {v : Value} {zs : List Int} (hr : r = some zs) (ho : OwnI w' w.heap.size v zs) (hb : Below w.heap.size w w') : LinPost w r (.returned (.tuple #[.agg #[v], .bool true])) w' := by
  subst hr; exact ⟨_, rfl, ho, hb⟩
theorem LinOk.nat {zs : List Int} (h : LinOk zs) : zs = ints (zs.map Int.toNat) ∧ Small (zs.map Int.toNat) := by
  refine ⟨nat_of_ints fun z hz => (h.small.2 z hz).1, fun x hx => ?_⟩
  obtain ⟨z, hz, rfl⟩ := List.mem_map.1 hx
  have := h.small.2 z hz; omega
theorem linB_true {zs : List Int} (h : LinOk zs) : linB zs = true := decide_eq_true h
theorem linB_false {zs : List Int} (h : ¬ LinOk zs) : linB zs = false := decide_eq_false h
set_option maxHeartbeats 1000000 in
theorem spec_AppendCX_any (v : Value) (zs : List Int) (a b : Int) (w : World) (h : RdI w v zs) (hn : zs.length ≤ 1048576) :
    Calls Try.prog 24 #[.agg #[v], .int .i64 a, .int .i64 b] w (LinPost w (addG zs a b)) := by
  have H := Lib.hid h
  obtain ⟨A, c, rfl, _⟩ := h.form
  clear h
  by_cases hv : LinOk zs
  · have hl := hv.1
    obtain ⟨hl1, hl2⟩ := hl
    by_cases hk : AddOk zs a b
    · obtain ⟨hz, hs⟩ := hv.nat
      have HG := Lib.hid (addG_some hv hk)
      have Hv := Lib.hid (linB_true hv)
      obtain ⟨⟨ha0, ha1⟩, ⟨kb0, kb1⟩, hab⟩ := hk
      obtain ⟨x, rfl⟩ := Int.eq_ofNat_of_zero_le ha0
      obtain ⟨y, rfl⟩ := Int.eq_ofNat_of_zero_le kb0
      have Hz := Lib.hid hz; have Hs := Lib.hid hs
      have d1 : decide ((0 : Int) ≤ (x : Int) ∧ (x : Int) ≤ (zs.length : Int) - 1) = true := decide_eq_true ⟨by omega, ha1⟩
      have d2 : decide ((0 : Int) ≤ (y : Int) ∧ (y : Int) ≤ (zs.length : Int) - 1) = true := decide_eq_true ⟨by omega, kb1⟩
      have d3 : ((x : Int) == (y : Int)) = false := by simpa using hab
      have D1 := Lib.hid d1; have D2 := Lib.hid d2
      clear hz hs d1 d2 hv hab
      go_enter Try.func24, Try.ntmps24
      go_wp2_with fail
      refine (spec_l12Valid_any _ zs _ (Rd.below H.out (show Below w.heap.size w _ from (by repeat (first | exact Below.refl _ _ | assumption | refine Below.drew ?_ | refine below_drewN ?_ _ | refine Below.alloc ?_ (by first | omega | (simp <;> omega)) _ | refine Below.setCell ?_ (by first | omega | (simp <;> omega)) _ | refine Below.trans ?_ (Below.mono (by assumption) (by first | omega | (simp <;> omega)))))) rfl) hn).mono ?_; rintro e w1 ⟨rfl, hb1⟩
      rw [Hv.out]; obtain ⟨hc_hb1, hf_hb1⟩ := bcell hb1; have hz_hb1 := hb1.size; (try simp at hz_hb1); have hs0_hb1 : w.heap.size < w1.heap.size := (by omega); have hs1_hb1 : w.heap.size + 1 < w1.heap.size := (by omega)
      go_wp2_with fail
      refine (l1In_p _ _ _ _).mono ?_; rintro e w' ⟨rfl, rfl⟩
      rw [D1.out]
      go_wp2_with fail
      refine (l1In_p _ _ _ _).mono ?_; rintro e w' ⟨rfl, rfl⟩
      rw [D2.out]
      go_wp2_with fail
      refine (spec_l12CX_any _ (zs.map Int.toNat) x y _ (by rw [← Hz.out]; exact Rd.below H.out (show Below w.heap.size w w1 from (by repeat (first | exact Below.refl _ _ | assumption | refine Below.drew ?_ | refine below_drewN ?_ _ | refine Below.alloc ?_ (by first | omega | (simp <;> omega)) _ | refine Below.setCell ?_ (by first | omega | (simp <;> omega)) _ | refine Below.trans ?_ (Below.mono (by assumption) (by first | omega | (simp <;> omega)))))) rfl) Hs.out (by simp; omega) (by simp; omega) (by simpa using hn)).mono ?_; rintro e w2 ⟨v2, rfl, ho, hb2⟩
      obtain ⟨a2, cap2, rfl⟩ := ho.forms
      have Ho := Lib.hid (OwnI.le ho (base' := w.heap.size + 2) (by omega)); clear ho
      have r1 : w2.cell? ⟨w.heap.size + 1, 0, none⟩ = some (.slice none 0 0) := below_cell hb2 rfl (below_cell hb1 rfl (by repeat (first | (refine Eq.trans (World.cell?_alloc_at _ _ _ _ ?hh) ?_; (case hh => (simp; done)); rfl) | refine cell_alloc_keep _ ?_)))
      obtain ⟨hc_hb2, hf_hb2⟩ := bcell hb2; have hz_hb2 := hb2.size; (try simp at hz_hb2); have hs0_hb2 : w.heap.size < w2.heap.size := (by omega); have hs1_hb2 : w.heap.size + 1 < w2.heap.size := (by omega)
      go_wp2_with fail
      exact bodyPost_ret (v := .tuple #[.agg #[.slice a2 (ints (cxN (zs.map Int.toNat) x y)).length cap2], .bool true]) (by simp [results, Try.results24, go_sem, r1]) rfl (LinPost.some HG.out (OwnI.le (OwnI.set Ho.out (by simp) _) (by omega)) (by repeat (first | exact Below.refl _ _ | assumption | refine Below.drew ?_ | refine below_drewN ?_ _ | refine Below.alloc ?_ (by first | omega | (simp <;> omega)) _ | refine Below.setCell ?_ (by first | omega | (simp <;> omega)) _ | refine Below.trans ?_ (Below.mono (by assumption) (by first | omega | (simp <;> omega))))))
    · have HG := Lib.hid (addG_none (fun _ => hk))
      have Hv := Lib.hid (linB_true hv)
      have Hk := Lib.hid hk; clear hk hv
      go_enter Try.func24, Try.ntmps24
      go_wp2_with fail
      refine (spec_l12Valid_any _ zs _ (Rd.below H.out (show Below w.heap.size w _ from (by repeat (first | exact Below.refl _ _ | assumption | refine Below.drew ?_ | refine below_drewN ?_ _ | refine Below.alloc ?_ (by first | omega | (simp <;> omega)) _ | refine Below.setCell ?_ (by first | omega | (simp <;> omega)) _ | refine Below.trans ?_ (Below.mono (by assumption) (by first | omega | (simp <;> omega)))))) rfl) hn).mono ?_; rintro e w1 ⟨rfl, hb1⟩
      rw [Hv.out]; obtain ⟨hc_hb1, hf_hb1⟩ := bcell hb1; have hz_hb1 := hb1.size; (try simp at hz_hb1); have hs0_hb1 : w.heap.size < w1.heap.size := (by omega); have hs1_hb1 : w.heap.size + 1 < w1.heap.size := (by omega)
      go_wp2_with (go_at_call 69; refine (l1In_p _ _ _ _).mono ?_; rintro e w' ⟨rfl, rfl⟩)
      all_goals first
        | (refine bodyPost_ret (v := .tuple #[.agg #[.slice none 0 0], .bool false]) (by simp [results, Try.results24, go_sem, hc_hb1]; done) rfl (LinPost.none HG.out (by repeat (first | exact Below.refl _ _ | assumption | refine Below.drew ?_ | refine below_drewN ?_ _ | refine Below.alloc ?_ (by first | omega | (simp <;> omega)) _ | refine Below.setCell ?_ (by first | omega | (simp <;> omega)) _ | refine Below.trans ?_ (Below.mono (by assumption) (by first | omega | (simp <;> omega)))))))
        | (exfalso; refine Hk.out ⟨⟨?_, ?_⟩, ⟨?_, ?_⟩, ?_⟩ <;> (go_light; simp_all) <;> done)
  · have HG := Lib.hid (addG_none (a := a) (b := b) (fun h => absurd h hv))
    have Hv := Lib.hid (linB_false hv); clear hv
    go_enter Try.func24, Try.ntmps24
    go_wp2_with fail
    refine (spec_l12Valid_any _ zs _ (Rd.below H.out (show Below w.heap.size w _ from (by repeat (first | exact Below.refl _ _ | assumption | refine Below.drew ?_ | refine below_drewN ?_ _ | refine Below.alloc ?_ (by first | omega | (simp <;> omega)) _ | refine Below.setCell ?_ (by first | omega | (simp <;> omega)) _ | refine Below.trans ?_ (Below.mono (by assumption) (by first | omega | (simp <;> omega)))))) rfl) hn).mono ?_; rintro e w1 ⟨rfl, hb1⟩
    rw [Hv.out]; obtain ⟨hc_hb1, hf_hb1⟩ := bcell hb1; have hz_hb1 := hb1.size; (try simp at hz_hb1); have hs0_hb1 : w.heap.size < w1.heap.size := (by omega); have hs1_hb1 : w.heap.size + 1 < w1.heap.size := (by omega)
    go_wp2_with fail
    exact bodyPost_ret (v := .tuple #[.agg #[.slice none 0 0], .bool false]) (by simp [results, Try.results24, go_sem, hc_hb1]) rfl (LinPost.none HG.out (by repeat (first | exact Below.refl _ _ | assumption | refine Below.drew ?_ | refine below_drewN ?_ _ | refine Below.alloc ?_ (by first | omega | (simp <;> omega)) _ | refine Below.setCell ?_ (by first | omega | (simp <;> omega)) _ | refine Below.trans ?_ (Below.mono (by assumption) (by first | omega | (simp <;> omega))))))
theorem gate_add {zs : List Int} {a b : Int} (h : 1 ≤ zs.length ∧ zs.length ≤ 5) : GateOk (zs.length : Int) ⟨9, a, b⟩ ↔ AddOk zs a b := by
  unfold GateOk AddOk
  dsimp only
  omega
set_option maxHeartbeats 1000000 in
theorem impl_AppendCX_any (v : Value) (zs : List Int) (a b : Int) (w : World) (h : RdI w v zs) (hn : zs.length ≤ 1048576) :
    Calls Try.prog 25 #[.agg #[v], .int .i64 a, .int .i64 b] w (LinPost w (addG zs a b)) := by
  have H := Lib.hid h
  obtain ⟨A, c, rfl, _⟩ := h.form
  clear h
  by_cases hv : LinOk zs
  · have hl := hv.1
    have hga := gate_add (a := a) (b := b) hl
    obtain ⟨hl1, hl2⟩ := hl
    by_cases hk : AddOk zs a b
    · obtain ⟨hz, hs⟩ := hv.nat
      have HG := Lib.hid (addG_some hv hk)
      have Hv := Lib.hid (linB_true hv)
      have D1 := Lib.hid (decide_eq_true (hga.2 hk))
      obtain ⟨⟨ha0, ha1⟩, ⟨kb0, kb1⟩, hab⟩ := hk
      obtain ⟨x, rfl⟩ := Int.eq_ofNat_of_zero_le ha0
      obtain ⟨y, rfl⟩ := Int.eq_ofNat_of_zero_le kb0
      have Hz := Lib.hid hz; have Hs := Lib.hid hs
      clear hz hs hv hab hga
      go_enter Try.func25, Try.ntmps25
      go_wp2_with fail
      refine (impl_IsValidLinear_any _ zs _ (Rd.below H.out (show Below w.heap.size w _ from (by repeat (first | exact Below.refl _ _ | assumption | refine Below.drew ?_ | refine below_drewN ?_ _ | refine Below.alloc ?_ (by first | omega | (simp <;> omega)) _ | refine Below.setCell ?_ (by first | omega | (simp <;> omega)) _ | refine Below.trans ?_ (Below.mono (by assumption) (by first | omega | (simp <;> omega)))))) rfl) hn).mono ?_; rintro e w1 ⟨rfl, hb1⟩
      rw [Hv.out]
      have r1 : w1.cell? ⟨w.heap.size + 1, 0, none⟩ = some (.slice none 0 0) := below_cell hb1 rfl (by repeat (first | (refine Eq.trans (World.cell?_alloc_at _ _ _ _ ?hh) ?_; (case hh => (simp; done)); rfl) | refine cell_alloc_keep _ ?_))
      obtain ⟨hc_hb1, hf_hb1⟩ := bcell hb1; have hz_hb1 := hb1.size; (try simp at hz_hb1); have hs0_hb1 : w.heap.size < w1.heap.size := (by omega); have hs1_hb1 : w.heap.size + 1 < w1.heap.size := (by omega)
      go_wp2_with fail
      refine (impl_IsValidGate_any _ ⟨9, (x : Int), (y : Int)⟩ _).mono ?_; rintro e w2 ⟨rfl, hb2⟩
      rw [D1.out]
      replace r1 := below_cell hb2 rfl r1
      obtain ⟨hc_hb2, hf_hb2⟩ := bcell hb2; have hz_hb2 := hb2.size; (try simp at hz_hb2); have hs0_hb2 : w.heap.size < w2.heap.size := (by omega); have hs1_hb2 : w.heap.size + 1 < w2.heap.size := (by omega)
      go_wp2_with fail
      refine (impl_added_any _ (zs.map Int.toNat) x y _ (by rw [← Hz.out]; exact Rd.below H.out (show Below w.heap.size w w2 from (by repeat (first | exact Below.refl _ _ | assumption | refine Below.drew ?_ | refine below_drewN ?_ _ | refine Below.alloc ?_ (by first | omega | (simp <;> omega)) _ | refine Below.setCell ?_ (by first | omega | (simp <;> omega)) _ | refine Below.trans ?_ (Below.mono (by assumption) (by first | omega | (simp <;> omega)))))) rfl) Hs.out (by simp; omega) (by simp; omega) (by simpa using hn)).mono ?_; rintro e w3 ⟨v2, rfl, ho, hb3⟩
      obtain ⟨a2, cap2, rfl⟩ := ho.forms
      have Ho := Lib.hid (OwnI.le ho (base' := w.heap.size + 2) (by omega)); clear ho
      replace r1 := below_cell hb3 rfl r1
      obtain ⟨hc_hb3, hf_hb3⟩ := bcell hb3; have hz_hb3 := hb3.size; (try simp at hz_hb3); have hs0_hb3 : w.heap.size < w3.heap.size := (by omega); have hs1_hb3 : w.heap.size + 1 < w3.heap.size := (by omega)
      go_wp2_with fail
      exact bodyPost_ret (v := .tuple #[.agg #[.slice a2 (ints (cxN (zs.map Int.toNat) x y)).length cap2], .bool true]) (by simp [results, Try.results25, go_sem, r1]) rfl (LinPost.some HG.out (OwnI.le (OwnI.set Ho.out (by simp) _) (by omega)) (by repeat (first | exact Below.refl _ _ | assumption | refine Below.drew ?_ | refine below_drewN ?_ _ | refine Below.alloc ?_ (by first | omega | (simp <;> omega)) _ | refine Below.setCell ?_ (by first | omega | (simp <;> omega)) _ | refine Below.trans ?_ (Below.mono (by assumption) (by first | omega | (simp <;> omega))))))
    · have HG := Lib.hid (addG_none (fun _ => hk))
      have Hv := Lib.hid (linB_true hv)
      have D1 := Lib.hid (decide_eq_false (fun k => hk (hga.1 k)))
      clear hk hv hga
      go_enter Try.func25, Try.ntmps25
      go_wp2_with fail
      refine (impl_IsValidLinear_any _ zs _ (Rd.below H.out (show Below w.heap.size w _ from (by repeat (first | exact Below.refl _ _ | assumption | refine Below.drew ?_ | refine below_drewN ?_ _ | refine Below.alloc ?_ (by first | omega | (simp <;> omega)) _ | refine Below.setCell ?_ (by first | omega | (simp <;> omega)) _ | refine Below.trans ?_ (Below.mono (by assumption) (by first | omega | (simp <;> omega)))))) rfl) hn).mono ?_; rintro e w1 ⟨rfl, hb1⟩
      rw [Hv.out]
      have r1 : w1.cell? ⟨w.heap.size + 1, 0, none⟩ = some (.slice none 0 0) := below_cell hb1 rfl (by repeat (first | (refine Eq.trans (World.cell?_alloc_at _ _ _ _ ?hh) ?_; (case hh => (simp; done)); rfl) | refine cell_alloc_keep _ ?_))
      obtain ⟨hc_hb1, hf_hb1⟩ := bcell hb1; have hz_hb1 := hb1.size; (try simp at hz_hb1); have hs0_hb1 : w.heap.size < w1.heap.size := (by omega); have hs1_hb1 : w.heap.size + 1 < w1.heap.size := (by omega)
      go_wp2_with fail
      refine (impl_IsValidGate_any _ ⟨9, a, b⟩ _).mono ?_; rintro e w2 ⟨rfl, hb2⟩
      rw [D1.out]
      replace r1 := below_cell hb2 rfl r1
      obtain ⟨hc_hb2, hf_hb2⟩ := bcell hb2; have hz_hb2 := hb2.size; (try simp at hz_hb2); have hs0_hb2 : w.heap.size < w2.heap.size := (by omega); have hs1_hb2 : w.heap.size + 1 < w2.heap.size := (by omega)
      go_wp2_with fail
      exact bodyPost_ret (v := .tuple #[.agg #[.slice none 0 0], .bool false]) (by simp [results, Try.results25, go_sem, r1]) rfl (LinPost.none HG.out (by repeat (first | exact Below.refl _ _ | assumption | refine Below.drew ?_ | refine below_drewN ?_ _ | refine Below.alloc ?_ (by first | omega | (simp <;> omega)) _ | refine Below.setCell ?_ (by first | omega | (simp <;> omega)) _ | refine Below.trans ?_ (Below.mono (by assumption) (by first | omega | (simp <;> omega))))))
  · have HG := Lib.hid (addG_none (a := a) (b := b) (fun h => absurd h hv))
    have Hv := Lib.hid (linB_false hv); clear hv
    go_enter Try.func25, Try.ntmps25
    go_wp2_with fail
    refine (impl_IsValidLinear_any _ zs _ (Rd.below H.out (show Below w.heap.size w _ from (by repeat (first | exact Below.refl _ _ | assumption | refine Below.drew ?_ | refine below_drewN ?_ _ | refine Below.alloc ?_ (by first | omega | (simp <;> omega)) _ | refine Below.setCell ?_ (by first | omega | (simp <;> omega)) _ | refine Below.trans ?_ (Below.mono (by assumption) (by first | omega | (simp <;> omega)))))) rfl) hn).mono ?_; rintro e w1 ⟨rfl, hb1⟩
    rw [Hv.out]
    have r1 : w1.cell? ⟨w.heap.size + 1, 0, none⟩ = some (.slice none 0 0) := below_cell hb1 rfl (by repeat (first | (refine Eq.trans (World.cell?_alloc_at _ _ _ _ ?hh) ?_; (case hh => (simp; done)); rfl) | refine cell_alloc_keep _ ?_))
    obtain ⟨hc_hb1, hf_hb1⟩ := bcell hb1; have hz_hb1 := hb1.size; (try simp at hz_hb1); have hs0_hb1 : w.heap.size < w1.heap.size := (by omega); have hs1_hb1 : w.heap.size + 1 < w1.heap.size := (by omega)
    go_wp2_with fail
    exact bodyPost_ret (v := .tuple #[.agg #[.slice none 0 0], .bool false]) (by simp [results, Try.results25, go_sem, r1]) rfl (LinPost.none HG.out (by repeat (first | exact Below.refl _ _ | assumption | refine Below.drew ?_ | refine below_drewN ?_ _ | refine Below.alloc ?_ (by first | omega | (simp <;> omega)) _ | refine Below.setCell ?_ (by first | omega | (simp <;> omega)) _ | refine Below.trans ?_ (Below.mono (by assumption) (by first | omega | (simp <;> omega))))))
end Go.Proofs.Ytdgghpbcinmbhaa
