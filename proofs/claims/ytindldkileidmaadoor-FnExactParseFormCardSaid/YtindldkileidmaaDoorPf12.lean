/- ParseForm: the program, three words. -/
import Derived.Test.YtindldkileidmaaDoorPf10
import Derived.BigRegion
namespace Go.Proofs.YtindldkileidmaaDoor
set_option linter.unusedSimpArgs false
set_option linter.unusedVariables false
set_option linter.unnecessarySimpa false
set_option maxRecDepth 200000
open Go.ChangeShapes Go.WideShapes Go.ChangeAt Go.RowKit

def formAns (s h : ByteArray) (c p : Int) : Value := if madeB s h c p = true then .agg #[.string h, .int .i64 c, .int .i64 p] else .agg #[.string ⟨#[]⟩, .int .i64 0, .int .i64 0]
theorem frz_set {w : World} {a b : Addr} {v : Value} (h : w.frozen? a = false) : (w.setCell b v).frozen? a = false := by simpa using h
set_option maxHeartbeats 8000000 in
theorem impl_ParseForm_three (s a b d : ByteArray) (w : World) (hs : s.size ≤ 1048576) (hm : MaxL w) (hst : Strc w) (hw : cutW 32 s.data.toList = [a.data.toList, b.data.toList, d.data.toList]) :
    Calls Tryd.prog 11 #[.string s] w fun e w' => e = .returned (.tuple #[formAns s (headOf a) (atoG b) (atoG d), .bool (madeB s (headOf a) (atoG b) (atoG d))]) ∧ Below w.heap.size w w' := by
  have M0 := Lib.hid (hm.call (show Below w.heap.size w (w.alloc (.cells #[.string ⟨#[]⟩, .int .i64 0, .int .i64 0] 29)) from (by repeat (first | exact Below.refl _ _ | assumption | refine Below.drew ?_ | refine below_drewN ?_ _ | refine Below.alloc ?_ (by first | omega | (simp <;> omega)) _ | refine Below.setCell ?_ (by first | omega | (simp <;> omega)) _ | refine Below.trans ?_ (Below.mono (by assumption) (by first | omega | (simp <;> omega)))))))
  have HS := Lib.hid hst
  have HW := Lib.hid hw
  have zb : b.size ≤ 1048576 := by
    have h9 := cut_len (show b.data.toList ∈ cutW 32 s.data.toList by rw [hw]; simp)
    rw [Array.length_toList, Array.length_toList] at h9
    exact Nat.le_trans h9 hs
  have zd : d.size ≤ 1048576 := by
    have h9 := cut_len (show d.data.toList ∈ cutW 32 s.data.toList by rw [hw]; simp)
    rw [Array.length_toList, Array.length_toList] at h9
    exact Nat.le_trans h9 hs
  have za : a.size ≤ 1048576 := by
    have h9 := cut_len (show a.data.toList ∈ cutW 32 s.data.toList by rw [hw]; simp)
    rw [Array.length_toList, Array.length_toList] at h9
    exact Nat.le_trans h9 hs
  clear hm hst hw
  obtain ⟨c, hc⟩ : ∃ c, c = atoG b := ⟨_, rfl⟩
  obtain ⟨p, hp⟩ : ∃ p, p = atoG d := ⟨_, rfl⟩
  obtain ⟨h, hh⟩ : ∃ h, h = headOf a := ⟨_, rfl⟩
  have HB := Lib.hid hc
  have HD := Lib.hid hp
  have HX := Lib.hid hh
  rw [← hc, ← hp, ← hh]
  clear hc hp hh
  go_enter Tryd.func11, Tryd.ntmps11
  go_wp2_with fail
  refine (impl_split3 HW.out _ hs M0.out).mono ?_; rintro e w1 ⟨rfl, rfl⟩
  by_cases ha : a = ⟨#[45]⟩
  · subst ha
    have HX := Lib.hid (HX.out.trans (show headOf ⟨#[45]⟩ = ⟨#[]⟩ from by unfold headOf; rw [if_pos rfl]))
    have hd : ((⟨#[45]⟩ : ByteArray).toList == [45]) = true := by rw [Lib.toList_data]; rfl
    go_wp2_with fail
    have zh : (⟨#[]⟩ : ByteArray).size ≤ 9223372036854775807 := by decide
    have x0 : (((w.alloc (.cells #[.string ⟨#[]⟩, .int .i64 0, .int .i64 0] 29)).alloc (.cells #[.string ⟨#[45]⟩, .string b, .string d] 9)).alloc (.cells #[.string ⟨#[]⟩, .int .i64 0, .int .i64 0] 29)).cell? ⟨w.heap.size, 0, none⟩ = some (.string ⟨#[]⟩) := (by repeat (first | (refine Eq.trans (World.cell?_alloc_at _ _ _ _ ?hh) ?_; (case hh => (simp; done)); rfl) | refine cell_alloc_keep _ ?_))
    have x1 : (((w.alloc (.cells #[.string ⟨#[]⟩, .int .i64 0, .int .i64 0] 29)).alloc (.cells #[.string ⟨#[45]⟩, .string b, .string d] 9)).alloc (.cells #[.string ⟨#[]⟩, .int .i64 0, .int .i64 0] 29)).cell? ⟨w.heap.size, 1, none⟩ = some (.int .i64 0) := (by repeat (first | (refine Eq.trans (World.cell?_alloc_at _ _ _ _ ?hh) ?_; (case hh => (simp; done)); rfl) | refine cell_alloc_keep _ ?_))
    have x2 : (((w.alloc (.cells #[.string ⟨#[]⟩, .int .i64 0, .int .i64 0] 29)).alloc (.cells #[.string ⟨#[45]⟩, .string b, .string d] 9)).alloc (.cells #[.string ⟨#[]⟩, .int .i64 0, .int .i64 0] 29)).cell? ⟨w.heap.size, 2, none⟩ = some (.int .i64 0) := (by repeat (first | (refine Eq.trans (World.cell?_alloc_at _ _ _ _ ?hh) ?_; (case hh => (simp; done)); rfl) | refine cell_alloc_keep _ ?_))
    have f0 : (((w.alloc (.cells #[.string ⟨#[]⟩, .int .i64 0, .int .i64 0] 29)).alloc (.cells #[.string ⟨#[45]⟩, .string b, .string d] 9)).alloc (.cells #[.string ⟨#[]⟩, .int .i64 0, .int .i64 0] 29)).frozen? ⟨w.heap.size, 0, none⟩ = false := (by repeat (first | (refine World.frozen?_alloc_at _ _ _ _ ?hh; case hh => (simp; done)) | (refine frozen_alloc_lt _ ?hh ?_; case hh => first | omega | (simp <;> omega))))
    have f1 : (((w.alloc (.cells #[.string ⟨#[]⟩, .int .i64 0, .int .i64 0] 29)).alloc (.cells #[.string ⟨#[45]⟩, .string b, .string d] 9)).alloc (.cells #[.string ⟨#[]⟩, .int .i64 0, .int .i64 0] 29)).frozen? ⟨w.heap.size, 1, none⟩ = false := (by repeat (first | (refine World.frozen?_alloc_at _ _ _ _ ?hh; case hh => (simp; done)) | (refine frozen_alloc_lt _ ?hh ?_; case hh => first | omega | (simp <;> omega))))
    have f2 : (((w.alloc (.cells #[.string ⟨#[]⟩, .int .i64 0, .int .i64 0] 29)).alloc (.cells #[.string ⟨#[45]⟩, .string b, .string d] 9)).alloc (.cells #[.string ⟨#[]⟩, .int .i64 0, .int .i64 0] 29)).frozen? ⟨w.heap.size, 2, none⟩ = false := (by repeat (first | (refine World.frozen?_alloc_at _ _ _ _ ?hh; case hh => (simp; done)) | (refine frozen_alloc_lt _ ?hh ?_; case hh => first | omega | (simp <;> omega))))
    have y0 : (((w.alloc (.cells #[.string ⟨#[]⟩, .int .i64 0, .int .i64 0] 29)).alloc (.cells #[.string ⟨#[45]⟩, .string b, .string d] 9)).alloc (.cells #[.string ⟨#[]⟩, .int .i64 0, .int .i64 0] 29)).cell? ⟨w.heap.size + 1 + 1, 0, none⟩ = some (.string ⟨#[]⟩) := (by repeat (first | (refine Eq.trans (World.cell?_alloc_at _ _ _ _ ?hh) ?_; (case hh => (simp; done)); rfl) | refine cell_alloc_keep _ ?_))
    have y1 : (((w.alloc (.cells #[.string ⟨#[]⟩, .int .i64 0, .int .i64 0] 29)).alloc (.cells #[.string ⟨#[45]⟩, .string b, .string d] 9)).alloc (.cells #[.string ⟨#[]⟩, .int .i64 0, .int .i64 0] 29)).cell? ⟨w.heap.size + 1 + 1, 1, none⟩ = some (.int .i64 0) := (by repeat (first | (refine Eq.trans (World.cell?_alloc_at _ _ _ _ ?hh) ?_; (case hh => (simp; done)); rfl) | refine cell_alloc_keep _ ?_))
    have y2 : (((w.alloc (.cells #[.string ⟨#[]⟩, .int .i64 0, .int .i64 0] 29)).alloc (.cells #[.string ⟨#[45]⟩, .string b, .string d] 9)).alloc (.cells #[.string ⟨#[]⟩, .int .i64 0, .int .i64 0] 29)).cell? ⟨w.heap.size + 1 + 1, 2, none⟩ = some (.int .i64 0) := (by repeat (first | (refine Eq.trans (World.cell?_alloc_at _ _ _ _ ?hh) ?_; (case hh => (simp; done)); rfl) | refine cell_alloc_keep _ ?_))
    have k0 : (((w.alloc (.cells #[.string ⟨#[]⟩, .int .i64 0, .int .i64 0] 29)).alloc (.cells #[.string ⟨#[45]⟩, .string b, .string d] 9)).alloc (.cells #[.string ⟨#[]⟩, .int .i64 0, .int .i64 0] 29)).frozen? ⟨w.heap.size + 1 + 1, 0, none⟩ = false := (by repeat (first | (refine World.frozen?_alloc_at _ _ _ _ ?hh; case hh => (simp; done)) | (refine frozen_alloc_lt _ ?hh ?_; case hh => first | omega | (simp <;> omega))))
    have k1 : (((w.alloc (.cells #[.string ⟨#[]⟩, .int .i64 0, .int .i64 0] 29)).alloc (.cells #[.string ⟨#[45]⟩, .string b, .string d] 9)).alloc (.cells #[.string ⟨#[]⟩, .int .i64 0, .int .i64 0] 29)).frozen? ⟨w.heap.size + 1 + 1, 1, none⟩ = false := (by repeat (first | (refine World.frozen?_alloc_at _ _ _ _ ?hh; case hh => (simp; done)) | (refine frozen_alloc_lt _ ?hh ?_; case hh => first | omega | (simp <;> omega))))
    have k2 : (((w.alloc (.cells #[.string ⟨#[]⟩, .int .i64 0, .int .i64 0] 29)).alloc (.cells #[.string ⟨#[45]⟩, .string b, .string d] 9)).alloc (.cells #[.string ⟨#[]⟩, .int .i64 0, .int .i64 0] 29)).frozen? ⟨w.heap.size + 1 + 1, 2, none⟩ = false := (by repeat (first | (refine World.frozen?_alloc_at _ _ _ _ ?hh; case hh => (simp; done)) | (refine frozen_alloc_lt _ ?hh ?_; case hh => first | omega | (simp <;> omega))))
    have q2 : (((w.alloc (.cells #[.string ⟨#[]⟩, .int .i64 0, .int .i64 0] 29)).alloc (.cells #[.string ⟨#[45]⟩, .string b, .string d] 9)).alloc (.cells #[.string ⟨#[]⟩, .int .i64 0, .int .i64 0] 29)).cell? ⟨w.heap.size + 1, 2, none⟩ = some (.string d) := (by repeat (first | (refine Eq.trans (World.cell?_alloc_at _ _ _ _ ?hh) ?_; (case hh => (simp; done)); rfl) | refine cell_alloc_keep _ ?_))
    have B1 : Below w.heap.size w (((w.alloc (.cells #[.string ⟨#[]⟩, .int .i64 0, .int .i64 0] 29)).alloc (.cells #[.string ⟨#[45]⟩, .string b, .string d] 9)).alloc (.cells #[.string ⟨#[]⟩, .int .i64 0, .int .i64 0] 29)) := (by repeat (first | exact Below.refl _ _ | assumption | refine Below.drew ?_ | refine below_drewN ?_ _ | refine Below.alloc ?_ (by first | omega | (simp <;> omega)) _ | refine Below.setCell ?_ (by first | omega | (simp <;> omega)) _ | refine Below.trans ?_ (Below.mono (by assumption) (by first | omega | (simp <;> omega)))))
    have z1 : (((w.alloc (.cells #[.string ⟨#[]⟩, .int .i64 0, .int .i64 0] 29)).alloc (.cells #[.string ⟨#[45]⟩, .string b, .string d] 9)).alloc (.cells #[.string ⟨#[]⟩, .int .i64 0, .int .i64 0] 29)).heap.size = w.heap.size + 3 := by simp
    obtain ⟨W, hW⟩ : ∃ W, W = ((w.alloc (.cells #[.string ⟨#[]⟩, .int .i64 0, .int .i64 0] 29)).alloc (.cells #[.string ⟨#[45]⟩, .string b, .string d] 9)).alloc (.cells #[.string ⟨#[]⟩, .int .i64 0, .int .i64 0] 29) := ⟨_, rfl⟩
    rw [← hW] at x0 x1 x2 f0 f1 f2 y0 y1 y2 k0 k1 k2 q2 B1 z1 ⊢
    clear hW
    refine (impl_parseInt_any b _ zb (HS.out.call B1)).mono ?_; rintro e w2 ⟨g, rfl, hb2⟩
    rw [← HB.out]
    replace x0 := bel_pf hb2 x0; replace x1 := bel_pf hb2 x1; replace x2 := bel_pf hb2 x2
    replace y0 := bel_pf hb2 y0; replace y1 := bel_pf hb2 y1; replace y2 := bel_pf hb2 y2; replace q2 := bel_pf hb2 q2
    replace f0 := below_frz hb2 rfl (by omega) f0; replace f1 := below_frz hb2 rfl (by omega) f1; replace f2 := below_frz hb2 rfl (by omega) f2
    replace k0 := below_frz hb2 rfl (by omega) k0; replace k1 := below_frz hb2 rfl (by omega) k1; replace k2 := below_frz hb2 rfl (by omega) k2
    have z2 := hb2.size
    have B2 := Below.trans B1 (hb2.mono (by omega))
    clear B1 hb2
    have B3 : Below w.heap.size w (w2.setCell ⟨w.heap.size + 1 + 1, 1, none⟩ (.int .i64 c)) := by
      refine Below.setCell B2 ?_ _
      show w.heap.size ≤ w.heap.size + 1 + 1
      omega
    have z3 : (w2.setCell ⟨w.heap.size + 1 + 1, 1, none⟩ (.int .i64 c)).heap.size = w2.heap.size := by simp
    have x0' : (w2.setCell ⟨w.heap.size + 1 + 1, 1, none⟩ (.int .i64 c)).cell? ⟨w.heap.size, 0, none⟩ = some (.string ⟨#[]⟩) := (World.cell?_setCell_other _ _ _ _ (fun e => by injection e with e1 e2 e3; omega)).trans x0
    have x1' : (w2.setCell ⟨w.heap.size + 1 + 1, 1, none⟩ (.int .i64 c)).cell? ⟨w.heap.size, 1, none⟩ = some (.int .i64 0) := (World.cell?_setCell_other _ _ _ _ (fun e => by injection e with e1 e2 e3; omega)).trans x1
    have x2' : (w2.setCell ⟨w.heap.size + 1 + 1, 1, none⟩ (.int .i64 c)).cell? ⟨w.heap.size, 2, none⟩ = some (.int .i64 0) := (World.cell?_setCell_other _ _ _ _ (fun e => by injection e with e1 e2 e3; omega)).trans x2
    have y0' : (w2.setCell ⟨w.heap.size + 1 + 1, 1, none⟩ (.int .i64 c)).cell? ⟨w.heap.size + 1 + 1, 0, none⟩ = some (.string ⟨#[]⟩) := cell_set_oth y0 (by decide)
    have y1' : (w2.setCell ⟨w.heap.size + 1 + 1, 1, none⟩ (.int .i64 c)).cell? ⟨w.heap.size + 1 + 1, 1, none⟩ = some (.int .i64 c) := World.cell?_setCell_same _ _ _ y1
    have y2' : (w2.setCell ⟨w.heap.size + 1 + 1, 1, none⟩ (.int .i64 c)).cell? ⟨w.heap.size + 1 + 1, 2, none⟩ = some (.int .i64 0) := cell_set_oth y2 (by decide)
    go_wp2_with fail
    refine (impl_parseInt_any d _ zd (HS.out.call B3)).mono ?_; rintro e w4 ⟨g4, rfl, hb4⟩
    rw [← HD.out]
    replace x0 := bel_pf hb4 x0'; replace x1 := bel_pf hb4 x1'; replace x2 := bel_pf hb4 x2'
    replace y0 := bel_pf hb4 y0'; replace y1 := bel_pf hb4 y1'; replace y2 := bel_pf hb4 y2'
    replace f0 := below_frz hb4 rfl (by omega) (frz_set (b := ⟨w.heap.size + 1 + 1, 1, none⟩) (v := .int .i64 c) f0); replace f1 := below_frz hb4 rfl (by omega) (frz_set (b := ⟨w.heap.size + 1 + 1, 1, none⟩) (v := .int .i64 c) f1); replace f2 := below_frz hb4 rfl (by omega) (frz_set (b := ⟨w.heap.size + 1 + 1, 1, none⟩) (v := .int .i64 c) f2)
    replace k2 := below_frz hb4 rfl (by omega) (frz_set (b := ⟨w.heap.size + 1 + 1, 1, none⟩) (v := .int .i64 c) k2)
    have z4 := hb4.size
    have B4 := Below.trans B3 (hb4.mono (by omega))
    clear B2 B3 hb4 x0' x1' x2' y0' y1' y2' k0 k1 q2
    replace x0 : (w4.setCell ⟨w.heap.size + 1 + 1, 2, none⟩ (.int .i64 p)).cell? ⟨w.heap.size, 0, none⟩ = some (.string ⟨#[]⟩) := (World.cell?_setCell_other _ _ _ _ (fun e => by injection e with e1 e2 e3; omega)).trans x0
    replace x1 : (w4.setCell ⟨w.heap.size + 1 + 1, 2, none⟩ (.int .i64 p)).cell? ⟨w.heap.size, 1, none⟩ = some (.int .i64 0) := (World.cell?_setCell_other _ _ _ _ (fun e => by injection e with e1 e2 e3; omega)).trans x1
    replace x2 : (w4.setCell ⟨w.heap.size + 1 + 1, 2, none⟩ (.int .i64 p)).cell? ⟨w.heap.size, 2, none⟩ = some (.int .i64 0) := (World.cell?_setCell_other _ _ _ _ (fun e => by injection e with e1 e2 e3; omega)).trans x2
    have y0' : (w4.setCell ⟨w.heap.size + 1 + 1, 2, none⟩ (.int .i64 p)).cell? ⟨w.heap.size + 1 + 1, 0, none⟩ = some (.string ⟨#[]⟩) := cell_set_oth y0 (by decide)
    have y1' : (w4.setCell ⟨w.heap.size + 1 + 1, 2, none⟩ (.int .i64 p)).cell? ⟨w.heap.size + 1 + 1, 1, none⟩ = some (.int .i64 c) := cell_set_oth y1 (by decide)
    have y2' : (w4.setCell ⟨w.heap.size + 1 + 1, 2, none⟩ (.int .i64 p)).cell? ⟨w.heap.size + 1 + 1, 2, none⟩ = some (.int .i64 p) := World.cell?_setCell_same _ _ _ y2
    have z5 : (w4.setCell ⟨w.heap.size + 1 + 1, 2, none⟩ (.int .i64 p)).heap.size = w4.heap.size := by simp
    have B5 : Below w.heap.size w (w4.setCell ⟨w.heap.size + 1 + 1, 2, none⟩ (.int .i64 p)) := by
      refine Below.setCell B4 ?_ _
      show w.heap.size ≤ w.heap.size + 1 + 1
      omega
    go_wp2_with fail
    refine (impl_FormatForm_any ⟨#[]⟩ c p _ zh).mono ?_; rintro e w6 ⟨rfl, hb6⟩
    replace x0 := bel_pf hb6 x0; replace x1 := bel_pf hb6 x1; replace x2 := bel_pf hb6 x2
    replace y0 := bel_pf hb6 y0'; replace y1 := bel_pf hb6 y1'; replace y2 := bel_pf hb6 y2'
    replace f0 := below_frz hb6 rfl (by omega) (frz_set (b := ⟨w.heap.size + 1 + 1, 2, none⟩) (v := .int .i64 p) f0); replace f1 := below_frz hb6 rfl (by omega) (frz_set (b := ⟨w.heap.size + 1 + 1, 2, none⟩) (v := .int .i64 p) f1); replace f2 := below_frz hb6 rfl (by omega) (frz_set (b := ⟨w.heap.size + 1 + 1, 2, none⟩) (v := .int .i64 p) f2)
    have B6 := Below.trans B5 (hb6.mono (by omega))
    clear B4 B5 hb6 y0' y1' y2' k2
    cases hv : validForm ⟨#[]⟩ c p with
    | false =>
      have hm : madeB s ⟨#[]⟩ c p = false := by unfold madeB; rw [hv]; rfl
      have HA := Lib.hid (show formAns s ⟨#[]⟩ c p = .agg #[.string ⟨#[]⟩, .int .i64 0, .int .i64 0] from by unfold formAns; rw [hm]; rfl)
      have HM := Lib.hid hm
      clear hv hm
      have hr0 : (((w6.setCell ⟨w.heap.size, 0, none⟩ (.string ⟨#[]⟩)).setCell ⟨w.heap.size, 1, none⟩ (.int .i64 0)).setCell ⟨w.heap.size, 2, none⟩ (.int .i64 0)).cell? ⟨w.heap.size, 0, none⟩ = some (.string ⟨#[]⟩) := cell_set_oth (cell_set_oth (World.cell?_setCell_same _ _ _ x0) (by decide)) (by decide)
      have hr1 : (((w6.setCell ⟨w.heap.size, 0, none⟩ (.string ⟨#[]⟩)).setCell ⟨w.heap.size, 1, none⟩ (.int .i64 0)).setCell ⟨w.heap.size, 2, none⟩ (.int .i64 0)).cell? ⟨w.heap.size, 1, none⟩ = some (.int .i64 0) := cell_set_oth (World.cell?_setCell_same _ _ _ (cell_set_oth x1 (by decide))) (by decide)
      have hr2 : (((w6.setCell ⟨w.heap.size, 0, none⟩ (.string ⟨#[]⟩)).setCell ⟨w.heap.size, 1, none⟩ (.int .i64 0)).setCell ⟨w.heap.size, 2, none⟩ (.int .i64 0)).cell? ⟨w.heap.size, 2, none⟩ = some (.int .i64 0) := World.cell?_setCell_same _ _ _ (cell_set_oth (cell_set_oth x2 (by decide)) (by decide))
      go_wp2_with fail
      exact bodyPost_ret (v := .tuple #[.agg #[.string ⟨#[]⟩, .int .i64 0, .int .i64 0], .bool false]) (by simp [results, Tryd.results11, go_sem, hr0, hr1, hr2]) rfl ⟨by (rw [HX.out, HA.out, HM.out]; try rfl), (by repeat (first | exact Below.refl _ _ | assumption | refine Below.drew ?_ | refine below_drewN ?_ _ | refine Below.alloc ?_ (by first | omega | (simp <;> omega)) _ | refine Below.setCell ?_ (by first | omega | (simp <;> omega)) _ | refine Below.trans ?_ (Below.mono (by assumption) (by first | omega | (simp <;> omega)))))⟩
    | true =>
      have hf := formStr_yes hv
      rw [hf]
      clear hf
      by_cases ht : formText ⟨#[]⟩ c.toNat p.toNat = s
      · have hm : madeB s ⟨#[]⟩ c p = true := by unfold madeB; rw [hv, decide_eq_true ht]; rfl
        have HA := Lib.hid (show formAns s ⟨#[]⟩ c p = .agg #[.string ⟨#[]⟩, .int .i64 c, .int .i64 p] from by unfold formAns; rw [hm]; rfl)
        have HM := Lib.hid hm
        clear hv hm
        rw [ht]
        clear ht
        have hr0 : (((w6.setCell ⟨w.heap.size, 0, none⟩ (.string ⟨#[]⟩)).setCell ⟨w.heap.size, 1, none⟩ (.int .i64 c)).setCell ⟨w.heap.size, 2, none⟩ (.int .i64 p)).cell? ⟨w.heap.size, 0, none⟩ = some (.string ⟨#[]⟩) := cell_set_oth (cell_set_oth (World.cell?_setCell_same _ _ _ x0) (by decide)) (by decide)
        have hr1 : (((w6.setCell ⟨w.heap.size, 0, none⟩ (.string ⟨#[]⟩)).setCell ⟨w.heap.size, 1, none⟩ (.int .i64 c)).setCell ⟨w.heap.size, 2, none⟩ (.int .i64 p)).cell? ⟨w.heap.size, 1, none⟩ = some (.int .i64 c) := cell_set_oth (World.cell?_setCell_same _ _ _ (cell_set_oth x1 (by decide))) (by decide)
        have hr2 : (((w6.setCell ⟨w.heap.size, 0, none⟩ (.string ⟨#[]⟩)).setCell ⟨w.heap.size, 1, none⟩ (.int .i64 c)).setCell ⟨w.heap.size, 2, none⟩ (.int .i64 p)).cell? ⟨w.heap.size, 2, none⟩ = some (.int .i64 p) := World.cell?_setCell_same _ _ _ (cell_set_oth (cell_set_oth x2 (by decide)) (by decide))
        go_wp2_with fail
        exact bodyPost_ret (v := .tuple #[.agg #[.string ⟨#[]⟩, .int .i64 c, .int .i64 p], .bool true]) (by simp [results, Tryd.results11, go_sem, hr0, hr1, hr2]) rfl ⟨by (rw [HX.out, HA.out, HM.out]; try rfl), (by repeat (first | exact Below.refl _ _ | assumption | refine Below.drew ?_ | refine below_drewN ?_ _ | refine Below.alloc ?_ (by first | omega | (simp <;> omega)) _ | refine Below.setCell ?_ (by first | omega | (simp <;> omega)) _ | refine Below.trans ?_ (Below.mono (by assumption) (by first | omega | (simp <;> omega)))))⟩
      · have hm : madeB s ⟨#[]⟩ c p = false := by unfold madeB; rw [hv, decide_eq_false ht]; rfl
        have HA := Lib.hid (show formAns s ⟨#[]⟩ c p = .agg #[.string ⟨#[]⟩, .int .i64 0, .int .i64 0] from by unfold formAns; rw [hm]; rfl)
        have HM := Lib.hid hm
        clear hv hm
        obtain ⟨T, hT⟩ : ∃ T, T = formText ⟨#[]⟩ c.toNat p.toNat := ⟨_, rfl⟩
        rw [← hT] at ht ⊢
        clear hT
        have hne2 : (T.toList == s.toList) = false := beq_eq_false_iff_ne.2 (by
          rw [Lib.toList_data, Lib.toList_data]
          exact fun e => ht (bytes_inj e))
        clear ht
        have hr0 : (((w6.setCell ⟨w.heap.size, 0, none⟩ (.string ⟨#[]⟩)).setCell ⟨w.heap.size, 1, none⟩ (.int .i64 0)).setCell ⟨w.heap.size, 2, none⟩ (.int .i64 0)).cell? ⟨w.heap.size, 0, none⟩ = some (.string ⟨#[]⟩) := cell_set_oth (cell_set_oth (World.cell?_setCell_same _ _ _ x0) (by decide)) (by decide)
        have hr1 : (((w6.setCell ⟨w.heap.size, 0, none⟩ (.string ⟨#[]⟩)).setCell ⟨w.heap.size, 1, none⟩ (.int .i64 0)).setCell ⟨w.heap.size, 2, none⟩ (.int .i64 0)).cell? ⟨w.heap.size, 1, none⟩ = some (.int .i64 0) := cell_set_oth (World.cell?_setCell_same _ _ _ (cell_set_oth x1 (by decide))) (by decide)
        have hr2 : (((w6.setCell ⟨w.heap.size, 0, none⟩ (.string ⟨#[]⟩)).setCell ⟨w.heap.size, 1, none⟩ (.int .i64 0)).setCell ⟨w.heap.size, 2, none⟩ (.int .i64 0)).cell? ⟨w.heap.size, 2, none⟩ = some (.int .i64 0) := World.cell?_setCell_same _ _ _ (cell_set_oth (cell_set_oth x2 (by decide)) (by decide))
        go_wp2_with fail
        exact bodyPost_ret (v := .tuple #[.agg #[.string ⟨#[]⟩, .int .i64 0, .int .i64 0], .bool false]) (by simp [results, Tryd.results11, go_sem, hr0, hr1, hr2]) rfl ⟨by (rw [HX.out, HA.out, HM.out]; try rfl), (by repeat (first | exact Below.refl _ _ | assumption | refine Below.drew ?_ | refine below_drewN ?_ _ | refine Below.alloc ?_ (by first | omega | (simp <;> omega)) _ | refine Below.setCell ?_ (by first | omega | (simp <;> omega)) _ | refine Below.trans ?_ (Below.mono (by assumption) (by first | omega | (simp <;> omega)))))⟩
  · have HX := Lib.hid (HX.out.trans (show headOf a = a from by unfold headOf; rw [if_neg ha]))
    have hne : (a.toList == [45]) = false := by
      rw [Lib.toList_data, beq_eq_false_iff_ne]
      exact fun e => ha (bytes_inj e)
    go_wp2_with fail
    clear hne ha
    have zh : (a : ByteArray).size ≤ 9223372036854775807 := by omega
    have x0 : (((w.alloc (.cells #[.string ⟨#[]⟩, .int .i64 0, .int .i64 0] 29)).alloc (.cells #[.string a, .string b, .string d] 9)).alloc (.cells #[.string a, .int .i64 0, .int .i64 0] 29)).cell? ⟨w.heap.size, 0, none⟩ = some (.string ⟨#[]⟩) := (by repeat (first | (refine Eq.trans (World.cell?_alloc_at _ _ _ _ ?hh) ?_; (case hh => (simp; done)); rfl) | refine cell_alloc_keep _ ?_))
    have x1 : (((w.alloc (.cells #[.string ⟨#[]⟩, .int .i64 0, .int .i64 0] 29)).alloc (.cells #[.string a, .string b, .string d] 9)).alloc (.cells #[.string a, .int .i64 0, .int .i64 0] 29)).cell? ⟨w.heap.size, 1, none⟩ = some (.int .i64 0) := (by repeat (first | (refine Eq.trans (World.cell?_alloc_at _ _ _ _ ?hh) ?_; (case hh => (simp; done)); rfl) | refine cell_alloc_keep _ ?_))
    have x2 : (((w.alloc (.cells #[.string ⟨#[]⟩, .int .i64 0, .int .i64 0] 29)).alloc (.cells #[.string a, .string b, .string d] 9)).alloc (.cells #[.string a, .int .i64 0, .int .i64 0] 29)).cell? ⟨w.heap.size, 2, none⟩ = some (.int .i64 0) := (by repeat (first | (refine Eq.trans (World.cell?_alloc_at _ _ _ _ ?hh) ?_; (case hh => (simp; done)); rfl) | refine cell_alloc_keep _ ?_))
    have f0 : (((w.alloc (.cells #[.string ⟨#[]⟩, .int .i64 0, .int .i64 0] 29)).alloc (.cells #[.string a, .string b, .string d] 9)).alloc (.cells #[.string a, .int .i64 0, .int .i64 0] 29)).frozen? ⟨w.heap.size, 0, none⟩ = false := (by repeat (first | (refine World.frozen?_alloc_at _ _ _ _ ?hh; case hh => (simp; done)) | (refine frozen_alloc_lt _ ?hh ?_; case hh => first | omega | (simp <;> omega))))
    have f1 : (((w.alloc (.cells #[.string ⟨#[]⟩, .int .i64 0, .int .i64 0] 29)).alloc (.cells #[.string a, .string b, .string d] 9)).alloc (.cells #[.string a, .int .i64 0, .int .i64 0] 29)).frozen? ⟨w.heap.size, 1, none⟩ = false := (by repeat (first | (refine World.frozen?_alloc_at _ _ _ _ ?hh; case hh => (simp; done)) | (refine frozen_alloc_lt _ ?hh ?_; case hh => first | omega | (simp <;> omega))))
    have f2 : (((w.alloc (.cells #[.string ⟨#[]⟩, .int .i64 0, .int .i64 0] 29)).alloc (.cells #[.string a, .string b, .string d] 9)).alloc (.cells #[.string a, .int .i64 0, .int .i64 0] 29)).frozen? ⟨w.heap.size, 2, none⟩ = false := (by repeat (first | (refine World.frozen?_alloc_at _ _ _ _ ?hh; case hh => (simp; done)) | (refine frozen_alloc_lt _ ?hh ?_; case hh => first | omega | (simp <;> omega))))
    have y0 : (((w.alloc (.cells #[.string ⟨#[]⟩, .int .i64 0, .int .i64 0] 29)).alloc (.cells #[.string a, .string b, .string d] 9)).alloc (.cells #[.string a, .int .i64 0, .int .i64 0] 29)).cell? ⟨w.heap.size + 1 + 1, 0, none⟩ = some (.string a) := (by repeat (first | (refine Eq.trans (World.cell?_alloc_at _ _ _ _ ?hh) ?_; (case hh => (simp; done)); rfl) | refine cell_alloc_keep _ ?_))
    have y1 : (((w.alloc (.cells #[.string ⟨#[]⟩, .int .i64 0, .int .i64 0] 29)).alloc (.cells #[.string a, .string b, .string d] 9)).alloc (.cells #[.string a, .int .i64 0, .int .i64 0] 29)).cell? ⟨w.heap.size + 1 + 1, 1, none⟩ = some (.int .i64 0) := (by repeat (first | (refine Eq.trans (World.cell?_alloc_at _ _ _ _ ?hh) ?_; (case hh => (simp; done)); rfl) | refine cell_alloc_keep _ ?_))
    have y2 : (((w.alloc (.cells #[.string ⟨#[]⟩, .int .i64 0, .int .i64 0] 29)).alloc (.cells #[.string a, .string b, .string d] 9)).alloc (.cells #[.string a, .int .i64 0, .int .i64 0] 29)).cell? ⟨w.heap.size + 1 + 1, 2, none⟩ = some (.int .i64 0) := (by repeat (first | (refine Eq.trans (World.cell?_alloc_at _ _ _ _ ?hh) ?_; (case hh => (simp; done)); rfl) | refine cell_alloc_keep _ ?_))
    have k0 : (((w.alloc (.cells #[.string ⟨#[]⟩, .int .i64 0, .int .i64 0] 29)).alloc (.cells #[.string a, .string b, .string d] 9)).alloc (.cells #[.string a, .int .i64 0, .int .i64 0] 29)).frozen? ⟨w.heap.size + 1 + 1, 0, none⟩ = false := (by repeat (first | (refine World.frozen?_alloc_at _ _ _ _ ?hh; case hh => (simp; done)) | (refine frozen_alloc_lt _ ?hh ?_; case hh => first | omega | (simp <;> omega))))
    have k1 : (((w.alloc (.cells #[.string ⟨#[]⟩, .int .i64 0, .int .i64 0] 29)).alloc (.cells #[.string a, .string b, .string d] 9)).alloc (.cells #[.string a, .int .i64 0, .int .i64 0] 29)).frozen? ⟨w.heap.size + 1 + 1, 1, none⟩ = false := (by repeat (first | (refine World.frozen?_alloc_at _ _ _ _ ?hh; case hh => (simp; done)) | (refine frozen_alloc_lt _ ?hh ?_; case hh => first | omega | (simp <;> omega))))
    have k2 : (((w.alloc (.cells #[.string ⟨#[]⟩, .int .i64 0, .int .i64 0] 29)).alloc (.cells #[.string a, .string b, .string d] 9)).alloc (.cells #[.string a, .int .i64 0, .int .i64 0] 29)).frozen? ⟨w.heap.size + 1 + 1, 2, none⟩ = false := (by repeat (first | (refine World.frozen?_alloc_at _ _ _ _ ?hh; case hh => (simp; done)) | (refine frozen_alloc_lt _ ?hh ?_; case hh => first | omega | (simp <;> omega))))
    have q2 : (((w.alloc (.cells #[.string ⟨#[]⟩, .int .i64 0, .int .i64 0] 29)).alloc (.cells #[.string a, .string b, .string d] 9)).alloc (.cells #[.string a, .int .i64 0, .int .i64 0] 29)).cell? ⟨w.heap.size + 1, 2, none⟩ = some (.string d) := (by repeat (first | (refine Eq.trans (World.cell?_alloc_at _ _ _ _ ?hh) ?_; (case hh => (simp; done)); rfl) | refine cell_alloc_keep _ ?_))
    have B1 : Below w.heap.size w (((w.alloc (.cells #[.string ⟨#[]⟩, .int .i64 0, .int .i64 0] 29)).alloc (.cells #[.string a, .string b, .string d] 9)).alloc (.cells #[.string a, .int .i64 0, .int .i64 0] 29)) := (by repeat (first | exact Below.refl _ _ | assumption | refine Below.drew ?_ | refine below_drewN ?_ _ | refine Below.alloc ?_ (by first | omega | (simp <;> omega)) _ | refine Below.setCell ?_ (by first | omega | (simp <;> omega)) _ | refine Below.trans ?_ (Below.mono (by assumption) (by first | omega | (simp <;> omega)))))
    have z1 : (((w.alloc (.cells #[.string ⟨#[]⟩, .int .i64 0, .int .i64 0] 29)).alloc (.cells #[.string a, .string b, .string d] 9)).alloc (.cells #[.string a, .int .i64 0, .int .i64 0] 29)).heap.size = w.heap.size + 3 := by simp
    obtain ⟨W, hW⟩ : ∃ W, W = ((w.alloc (.cells #[.string ⟨#[]⟩, .int .i64 0, .int .i64 0] 29)).alloc (.cells #[.string a, .string b, .string d] 9)).alloc (.cells #[.string a, .int .i64 0, .int .i64 0] 29) := ⟨_, rfl⟩
    rw [← hW] at x0 x1 x2 f0 f1 f2 y0 y1 y2 k0 k1 k2 q2 B1 z1 ⊢
    clear hW
    refine (impl_parseInt_any b _ zb (HS.out.call B1)).mono ?_; rintro e w2 ⟨g, rfl, hb2⟩
    rw [← HB.out]
    replace x0 := bel_pf hb2 x0; replace x1 := bel_pf hb2 x1; replace x2 := bel_pf hb2 x2
    replace y0 := bel_pf hb2 y0; replace y1 := bel_pf hb2 y1; replace y2 := bel_pf hb2 y2; replace q2 := bel_pf hb2 q2
    replace f0 := below_frz hb2 rfl (by omega) f0; replace f1 := below_frz hb2 rfl (by omega) f1; replace f2 := below_frz hb2 rfl (by omega) f2
    replace k0 := below_frz hb2 rfl (by omega) k0; replace k1 := below_frz hb2 rfl (by omega) k1; replace k2 := below_frz hb2 rfl (by omega) k2
    have z2 := hb2.size
    have B2 := Below.trans B1 (hb2.mono (by omega))
    clear B1 hb2
    have B3 : Below w.heap.size w (w2.setCell ⟨w.heap.size + 1 + 1, 1, none⟩ (.int .i64 c)) := by
      refine Below.setCell B2 ?_ _
      show w.heap.size ≤ w.heap.size + 1 + 1
      omega
    have z3 : (w2.setCell ⟨w.heap.size + 1 + 1, 1, none⟩ (.int .i64 c)).heap.size = w2.heap.size := by simp
    have x0' : (w2.setCell ⟨w.heap.size + 1 + 1, 1, none⟩ (.int .i64 c)).cell? ⟨w.heap.size, 0, none⟩ = some (.string ⟨#[]⟩) := (World.cell?_setCell_other _ _ _ _ (fun e => by injection e with e1 e2 e3; omega)).trans x0
    have x1' : (w2.setCell ⟨w.heap.size + 1 + 1, 1, none⟩ (.int .i64 c)).cell? ⟨w.heap.size, 1, none⟩ = some (.int .i64 0) := (World.cell?_setCell_other _ _ _ _ (fun e => by injection e with e1 e2 e3; omega)).trans x1
    have x2' : (w2.setCell ⟨w.heap.size + 1 + 1, 1, none⟩ (.int .i64 c)).cell? ⟨w.heap.size, 2, none⟩ = some (.int .i64 0) := (World.cell?_setCell_other _ _ _ _ (fun e => by injection e with e1 e2 e3; omega)).trans x2
    have y0' : (w2.setCell ⟨w.heap.size + 1 + 1, 1, none⟩ (.int .i64 c)).cell? ⟨w.heap.size + 1 + 1, 0, none⟩ = some (.string a) := cell_set_oth y0 (by decide)
    have y1' : (w2.setCell ⟨w.heap.size + 1 + 1, 1, none⟩ (.int .i64 c)).cell? ⟨w.heap.size + 1 + 1, 1, none⟩ = some (.int .i64 c) := World.cell?_setCell_same _ _ _ y1
    have y2' : (w2.setCell ⟨w.heap.size + 1 + 1, 1, none⟩ (.int .i64 c)).cell? ⟨w.heap.size + 1 + 1, 2, none⟩ = some (.int .i64 0) := cell_set_oth y2 (by decide)
    go_wp2_with fail
    refine (impl_parseInt_any d _ zd (HS.out.call B3)).mono ?_; rintro e w4 ⟨g4, rfl, hb4⟩
    rw [← HD.out]
    replace x0 := bel_pf hb4 x0'; replace x1 := bel_pf hb4 x1'; replace x2 := bel_pf hb4 x2'
    replace y0 := bel_pf hb4 y0'; replace y1 := bel_pf hb4 y1'; replace y2 := bel_pf hb4 y2'
    replace f0 := below_frz hb4 rfl (by omega) (frz_set (b := ⟨w.heap.size + 1 + 1, 1, none⟩) (v := .int .i64 c) f0); replace f1 := below_frz hb4 rfl (by omega) (frz_set (b := ⟨w.heap.size + 1 + 1, 1, none⟩) (v := .int .i64 c) f1); replace f2 := below_frz hb4 rfl (by omega) (frz_set (b := ⟨w.heap.size + 1 + 1, 1, none⟩) (v := .int .i64 c) f2)
    replace k2 := below_frz hb4 rfl (by omega) (frz_set (b := ⟨w.heap.size + 1 + 1, 1, none⟩) (v := .int .i64 c) k2)
    have z4 := hb4.size
    have B4 := Below.trans B3 (hb4.mono (by omega))
    clear B2 B3 hb4 x0' x1' x2' y0' y1' y2' k0 k1 q2
    replace x0 : (w4.setCell ⟨w.heap.size + 1 + 1, 2, none⟩ (.int .i64 p)).cell? ⟨w.heap.size, 0, none⟩ = some (.string ⟨#[]⟩) := (World.cell?_setCell_other _ _ _ _ (fun e => by injection e with e1 e2 e3; omega)).trans x0
    replace x1 : (w4.setCell ⟨w.heap.size + 1 + 1, 2, none⟩ (.int .i64 p)).cell? ⟨w.heap.size, 1, none⟩ = some (.int .i64 0) := (World.cell?_setCell_other _ _ _ _ (fun e => by injection e with e1 e2 e3; omega)).trans x1
    replace x2 : (w4.setCell ⟨w.heap.size + 1 + 1, 2, none⟩ (.int .i64 p)).cell? ⟨w.heap.size, 2, none⟩ = some (.int .i64 0) := (World.cell?_setCell_other _ _ _ _ (fun e => by injection e with e1 e2 e3; omega)).trans x2
    have y0' : (w4.setCell ⟨w.heap.size + 1 + 1, 2, none⟩ (.int .i64 p)).cell? ⟨w.heap.size + 1 + 1, 0, none⟩ = some (.string a) := cell_set_oth y0 (by decide)
    have y1' : (w4.setCell ⟨w.heap.size + 1 + 1, 2, none⟩ (.int .i64 p)).cell? ⟨w.heap.size + 1 + 1, 1, none⟩ = some (.int .i64 c) := cell_set_oth y1 (by decide)
    have y2' : (w4.setCell ⟨w.heap.size + 1 + 1, 2, none⟩ (.int .i64 p)).cell? ⟨w.heap.size + 1 + 1, 2, none⟩ = some (.int .i64 p) := World.cell?_setCell_same _ _ _ y2
    have z5 : (w4.setCell ⟨w.heap.size + 1 + 1, 2, none⟩ (.int .i64 p)).heap.size = w4.heap.size := by simp
    have B5 : Below w.heap.size w (w4.setCell ⟨w.heap.size + 1 + 1, 2, none⟩ (.int .i64 p)) := by
      refine Below.setCell B4 ?_ _
      show w.heap.size ≤ w.heap.size + 1 + 1
      omega
    go_wp2_with fail
    refine (impl_FormatForm_any a c p _ zh).mono ?_; rintro e w6 ⟨rfl, hb6⟩
    replace x0 := bel_pf hb6 x0; replace x1 := bel_pf hb6 x1; replace x2 := bel_pf hb6 x2
    replace y0 := bel_pf hb6 y0'; replace y1 := bel_pf hb6 y1'; replace y2 := bel_pf hb6 y2'
    replace f0 := below_frz hb6 rfl (by omega) (frz_set (b := ⟨w.heap.size + 1 + 1, 2, none⟩) (v := .int .i64 p) f0); replace f1 := below_frz hb6 rfl (by omega) (frz_set (b := ⟨w.heap.size + 1 + 1, 2, none⟩) (v := .int .i64 p) f1); replace f2 := below_frz hb6 rfl (by omega) (frz_set (b := ⟨w.heap.size + 1 + 1, 2, none⟩) (v := .int .i64 p) f2)
    have B6 := Below.trans B5 (hb6.mono (by omega))
    clear B4 B5 hb6 y0' y1' y2' k2
    cases hv : validForm a c p with
    | false =>
      have hm : madeB s a c p = false := by unfold madeB; rw [hv]; rfl
      have HA := Lib.hid (show formAns s a c p = .agg #[.string ⟨#[]⟩, .int .i64 0, .int .i64 0] from by unfold formAns; rw [hm]; rfl)
      have HM := Lib.hid hm
      clear hv hm
      have hr0 : (((w6.setCell ⟨w.heap.size, 0, none⟩ (.string ⟨#[]⟩)).setCell ⟨w.heap.size, 1, none⟩ (.int .i64 0)).setCell ⟨w.heap.size, 2, none⟩ (.int .i64 0)).cell? ⟨w.heap.size, 0, none⟩ = some (.string ⟨#[]⟩) := cell_set_oth (cell_set_oth (World.cell?_setCell_same _ _ _ x0) (by decide)) (by decide)
      have hr1 : (((w6.setCell ⟨w.heap.size, 0, none⟩ (.string ⟨#[]⟩)).setCell ⟨w.heap.size, 1, none⟩ (.int .i64 0)).setCell ⟨w.heap.size, 2, none⟩ (.int .i64 0)).cell? ⟨w.heap.size, 1, none⟩ = some (.int .i64 0) := cell_set_oth (World.cell?_setCell_same _ _ _ (cell_set_oth x1 (by decide))) (by decide)
      have hr2 : (((w6.setCell ⟨w.heap.size, 0, none⟩ (.string ⟨#[]⟩)).setCell ⟨w.heap.size, 1, none⟩ (.int .i64 0)).setCell ⟨w.heap.size, 2, none⟩ (.int .i64 0)).cell? ⟨w.heap.size, 2, none⟩ = some (.int .i64 0) := World.cell?_setCell_same _ _ _ (cell_set_oth (cell_set_oth x2 (by decide)) (by decide))
      go_wp2_with fail
      exact bodyPost_ret (v := .tuple #[.agg #[.string ⟨#[]⟩, .int .i64 0, .int .i64 0], .bool false]) (by simp [results, Tryd.results11, go_sem, hr0, hr1, hr2]) rfl ⟨by (rw [HX.out, HA.out, HM.out]; try rfl), (by repeat (first | exact Below.refl _ _ | assumption | refine Below.drew ?_ | refine below_drewN ?_ _ | refine Below.alloc ?_ (by first | omega | (simp <;> omega)) _ | refine Below.setCell ?_ (by first | omega | (simp <;> omega)) _ | refine Below.trans ?_ (Below.mono (by assumption) (by first | omega | (simp <;> omega)))))⟩
    | true =>
      have hf := formStr_yes hv
      rw [hf]
      clear hf
      by_cases ht : formText a c.toNat p.toNat = s
      · have hm : madeB s a c p = true := by unfold madeB; rw [hv, decide_eq_true ht]; rfl
        have HA := Lib.hid (show formAns s a c p = .agg #[.string a, .int .i64 c, .int .i64 p] from by unfold formAns; rw [hm]; rfl)
        have HM := Lib.hid hm
        clear hv hm
        rw [ht]
        clear ht
        have hr0 : (((w6.setCell ⟨w.heap.size, 0, none⟩ (.string a)).setCell ⟨w.heap.size, 1, none⟩ (.int .i64 c)).setCell ⟨w.heap.size, 2, none⟩ (.int .i64 p)).cell? ⟨w.heap.size, 0, none⟩ = some (.string a) := cell_set_oth (cell_set_oth (World.cell?_setCell_same _ _ _ x0) (by decide)) (by decide)
        have hr1 : (((w6.setCell ⟨w.heap.size, 0, none⟩ (.string a)).setCell ⟨w.heap.size, 1, none⟩ (.int .i64 c)).setCell ⟨w.heap.size, 2, none⟩ (.int .i64 p)).cell? ⟨w.heap.size, 1, none⟩ = some (.int .i64 c) := cell_set_oth (World.cell?_setCell_same _ _ _ (cell_set_oth x1 (by decide))) (by decide)
        have hr2 : (((w6.setCell ⟨w.heap.size, 0, none⟩ (.string a)).setCell ⟨w.heap.size, 1, none⟩ (.int .i64 c)).setCell ⟨w.heap.size, 2, none⟩ (.int .i64 p)).cell? ⟨w.heap.size, 2, none⟩ = some (.int .i64 p) := World.cell?_setCell_same _ _ _ (cell_set_oth (cell_set_oth x2 (by decide)) (by decide))
        go_wp2_with fail
        exact bodyPost_ret (v := .tuple #[.agg #[.string a, .int .i64 c, .int .i64 p], .bool true]) (by simp [results, Tryd.results11, go_sem, hr0, hr1, hr2]) rfl ⟨by (rw [HX.out, HA.out, HM.out]; try rfl), (by repeat (first | exact Below.refl _ _ | assumption | refine Below.drew ?_ | refine below_drewN ?_ _ | refine Below.alloc ?_ (by first | omega | (simp <;> omega)) _ | refine Below.setCell ?_ (by first | omega | (simp <;> omega)) _ | refine Below.trans ?_ (Below.mono (by assumption) (by first | omega | (simp <;> omega)))))⟩
      · have hm : madeB s a c p = false := by unfold madeB; rw [hv, decide_eq_false ht]; rfl
        have HA := Lib.hid (show formAns s a c p = .agg #[.string ⟨#[]⟩, .int .i64 0, .int .i64 0] from by unfold formAns; rw [hm]; rfl)
        have HM := Lib.hid hm
        clear hv hm
        obtain ⟨T, hT⟩ : ∃ T, T = formText a c.toNat p.toNat := ⟨_, rfl⟩
        rw [← hT] at ht ⊢
        clear hT
        have hne2 : (T.toList == s.toList) = false := beq_eq_false_iff_ne.2 (by
          rw [Lib.toList_data, Lib.toList_data]
          exact fun e => ht (bytes_inj e))
        clear ht
        have hr0 : (((w6.setCell ⟨w.heap.size, 0, none⟩ (.string ⟨#[]⟩)).setCell ⟨w.heap.size, 1, none⟩ (.int .i64 0)).setCell ⟨w.heap.size, 2, none⟩ (.int .i64 0)).cell? ⟨w.heap.size, 0, none⟩ = some (.string ⟨#[]⟩) := cell_set_oth (cell_set_oth (World.cell?_setCell_same _ _ _ x0) (by decide)) (by decide)
        have hr1 : (((w6.setCell ⟨w.heap.size, 0, none⟩ (.string ⟨#[]⟩)).setCell ⟨w.heap.size, 1, none⟩ (.int .i64 0)).setCell ⟨w.heap.size, 2, none⟩ (.int .i64 0)).cell? ⟨w.heap.size, 1, none⟩ = some (.int .i64 0) := cell_set_oth (World.cell?_setCell_same _ _ _ (cell_set_oth x1 (by decide))) (by decide)
        have hr2 : (((w6.setCell ⟨w.heap.size, 0, none⟩ (.string ⟨#[]⟩)).setCell ⟨w.heap.size, 1, none⟩ (.int .i64 0)).setCell ⟨w.heap.size, 2, none⟩ (.int .i64 0)).cell? ⟨w.heap.size, 2, none⟩ = some (.int .i64 0) := World.cell?_setCell_same _ _ _ (cell_set_oth (cell_set_oth x2 (by decide)) (by decide))
        go_wp2_with fail
        exact bodyPost_ret (v := .tuple #[.agg #[.string ⟨#[]⟩, .int .i64 0, .int .i64 0], .bool false]) (by simp [results, Tryd.results11, go_sem, hr0, hr1, hr2]) rfl ⟨by (rw [HX.out, HA.out, HM.out]; try rfl), (by repeat (first | exact Below.refl _ _ | assumption | refine Below.drew ?_ | refine below_drewN ?_ _ | refine Below.alloc ?_ (by first | omega | (simp <;> omega)) _ | refine Below.setCell ?_ (by first | omega | (simp <;> omega)) _ | refine Below.trans ?_ (Below.mono (by assumption) (by first | omega | (simp <;> omega)))))⟩
end Go.Proofs.YtindldkileidmaaDoor
