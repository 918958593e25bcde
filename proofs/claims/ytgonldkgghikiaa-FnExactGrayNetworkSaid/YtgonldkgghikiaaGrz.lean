/- Gr6, Gr7, Gr7b, Gr7c, Gr8, Gr9 in one text. -/
import Derived.Test.YtgonldkgghikiaaGr5
import Derived.Test.YtgonldkgghikiaaMask1
import Derived.Test.YtgonldkgghikiaaGr4b
import Derived.Test.YtgonldkgghikiaaSl
import Derived.Test.YtgonldkgghikiaaBrk
import Derived.BigRegion
import Derived.BigQuiet
import Derived.Deep.LoopGhost
import Derived.Deep.DeepCutAuto
import Derived.Deep.AppendLies
namespace Go.Proofs.Ytgonldkgghikiaa
set_option linter.unusedSimpArgs false
set_option linter.unusedVariables false
set_option linter.unnecessarySimpa false
set_option maxRecDepth 200000
open Go.ChangeShapes Go.WideShapes Go.ChangeAt Go.RowKit

noncomputable def grG (n : Int) (zs : List Int) : Option Circ := if masksB n zs = true then some ⟨n, gAll n.toNat (zs.map Int.toNat)⟩ else none
theorem masks_sm {n : Int} {zs : List Int} (h : masksB n zs = true) : ∃ m : Nat, n = (m : Int) ∧ 1 ≤ m ∧ m ≤ 5 ∧ zs = ints (zs.map Int.toNat) ∧ Sm (zs.map Int.toNat) := by
  unfold masksB at h
  rw [Bool.and_eq_true] at h
  have hn := of_decide_eq_true h.1
  have hr : RiseOk zs (2 ^ n.toNat - 1) := of_decide_eq_true h.2
  obtain ⟨m, rfl⟩ : ∃ m : Nat, n = (m : Int) := ⟨n.toNat, by omega⟩
  have hp := pow_n5 (m := m) (by omega) (by omega)
  have hk : ∀ k, k < zs.length → (1 ≤ zs.getD k 0 ∧ zs.getD k 0 ≤ 31) ∧ (k = 0 ∨ zs.getD (k - 1) 0 < zs.getD k 0) := by
    intro k hk
    have h1 := hr k hk
    unfold riseAt at h1
    simp only [Bool.and_eq_true, Bool.or_eq_true, decide_eq_true_eq, Int.toNat_natCast] at h1
    exact ⟨⟨h1.1.1, by have := h1.1.2; omega⟩, h1.2⟩
  have hup : ∀ k, k < zs.length → (k : Int) + 1 ≤ zs.getD k 0 := by
    intro k
    induction k with
    | zero => intro h0; have := (hk 0 h0).1.1; omega
    | succ k ih =>
      intro h0
      have h1 := ih (by omega)
      have h2 := (hk (k + 1) h0).2
      simp only [Nat.add_sub_cancel] at h2
      omega
  have hl : zs.length ≤ 31 := by
    rcases Nat.eq_zero_or_pos zs.length with h0 | h0
    · omega
    · have h1 := hup (zs.length - 1) (by omega)
      have h2 := (hk (zs.length - 1) (by omega)).1.2
      omega
  have hm : ∀ z ∈ zs, 1 ≤ z ∧ z ≤ 31 := by
    intro z hz
    obtain ⟨k, hk1, rfl⟩ := List.mem_iff_getElem.1 hz
    have := (hk k hk1).1
    simpa [List.getD, hk1] using this
  refine ⟨m, rfl, by omega, by omega, ?_, by simpa using hl, ?_⟩
  · unfold ints
    rw [List.map_map]
    conv => lhs; rw [← List.map_id zs]
    refine List.map_congr_left fun z hz => ?_
    have := hm z hz
    simp [Function.comp_def]; omega
  · intro v hv
    obtain ⟨z, hz, rfl⟩ := List.mem_map.1 hv
    have := hm z hz
    omega
theorem gr_circIf {m : Nat} {zs : List Int} (h : masksB m zs = true) (h1 : 1 ≤ m) (h5 : m ≤ 5) (hs : Sm (zs.map Int.toNat)) : circIf m (gAll m (zs.map Int.toNat)) = grG m zs := by
  unfold circIf grG
  rw [if_pos h, if_pos (gAll_ok h1 h5 hs)]; rfl
theorem gr_none {n : Int} {zs : List Int} (h : masksB n zs = false) : grG n zs = none := by unfold grG; rw [h]; rfl
theorem gr_some {m : Nat} {zs : List Int} (h : masksB m zs = true) : grG m zs = some ⟨(m : Int), gAll m (zs.map Int.toNat)⟩ := by unfold grG; rw [if_pos h]; rfl
theorem gAll_len {m : Nat} {vs : List Nat} (h1 : 1 ≤ m) (h5 : m ≤ 5) (hs : Sm vs) : (gAll m vs).length ≤ 400 := by
  have h2 : CircOk ⟨(m : Int), gAll m vs⟩ := of_decide_eq_true (gAll_ok h1 h5 hs)
  exact h2.2.1
theorem grG_len (n : Int) (zs : List Int) : ((grG n zs).getD Circ.zero).gs.length ≤ 1000000 := by
  cases h : masksB n zs with
  | false => rw [gr_none h]; simp [Circ.zero]
  | true =>
    obtain ⟨m, rfl, h1, h5, _, hs⟩ := masks_sm h
    have := gAll_len h1 h5 hs
    rw [gr_some h]; simp; omega
set_option maxHeartbeats 4000000 in
theorem impl_GrayNetwork_any (n : Int) (zs : List Int) (v : Value) (w : World) (h : RdI w v zs) (hl : zs.length ≤ 1048576) :
    Calls Try.prog 7 #[.int .i64 n, v] w (CircPost w (grG n zs)) := by
  have H := Lib.hid h
  clear h
  cases hb : masksB n zs with
  | false =>
    have HN := Lib.hid (gr_none hb)
    go_enter Try.func7, Try.ntmps7
    go_wp2_with fail
    refine (impl_areMasks_any n v zs _ (Rd.below H.out (show Below w.heap.size w _ from (by repeat (first | exact Below.refl _ _ | assumption | refine Below.drew ?_ | refine below_drewN ?_ _ | refine Below.alloc ?_ (by first | omega | (simp <;> omega)) _ | refine Below.setCell ?_ (by first | omega | (simp <;> omega)) _ | refine Below.trans ?_ (Below.mono (by assumption) (by first | omega | (simp <;> omega)))))) rfl) hl).mono ?_; rintro e w2 ⟨rfl, rfl⟩
    rw [hb]
    go_wp2_with fail
    have r0 : (w.alloc (.cells #[.int .i64 0, .slice none 0 0] 25)).cell? ⟨w.heap.size, 0, none⟩ = some (.int .i64 0) := (by repeat (first | (refine Eq.trans (World.cell?_alloc_at _ _ _ _ ?hh) ?_; (case hh => (simp; done)); rfl) | refine cell_alloc_keep _ ?_))
    have r1 : (w.alloc (.cells #[.int .i64 0, .slice none 0 0] 25)).cell? ⟨w.heap.size, 1, none⟩ = some (.slice none 0 0) := (by repeat (first | (refine Eq.trans (World.cell?_alloc_at _ _ _ _ ?hh) ?_; (case hh => (simp; done)); rfl) | refine cell_alloc_keep _ ?_))
    have hZ := box_set2 (nb := w.heap.size) (.int .i64 0) (.slice none 0 0) r0 r1
    exact bodyPost_ret (v := .tuple #[.agg #[.int .i64 0, .slice none 0 0], .bool false]) (by simp [results, Try.results7, go_sem, hZ]) rfl (CircPost.none HN.out (by repeat (first | exact Below.refl _ _ | assumption | refine Below.drew ?_ | refine below_drewN ?_ _ | refine Below.alloc ?_ (by first | omega | (simp <;> omega)) _ | refine Below.setCell ?_ (by first | omega | (simp <;> omega)) _ | refine Below.trans ?_ (Below.mono (by assumption) (by first | omega | (simp <;> omega))))))
  | true =>
    obtain ⟨m, rfl, h1, h5, hz, hs⟩ := masks_sm hb
    have HC := Lib.hid (gr_circIf hb h1 h5 hs)
    have HS := Lib.hid hs
    have HI := Lib.hid (show RdI w v (ints (zs.map Int.toNat)) from by rw [← hz]; exact H.out)
    have HL := Lib.hid (gAll_len h1 h5 hs)
    have HB := Lib.hid hb
    clear hz hs hb
    go_enter Try.func7, Try.ntmps7
    go_wp2_with fail
    refine (impl_areMasks_any _ v zs _ (Rd.below H.out (show Below w.heap.size w _ from (by repeat (first | exact Below.refl _ _ | assumption | refine Below.drew ?_ | refine below_drewN ?_ _ | refine Below.alloc ?_ (by first | omega | (simp <;> omega)) _ | refine Below.setCell ?_ (by first | omega | (simp <;> omega)) _ | refine Below.trans ?_ (Below.mono (by assumption) (by first | omega | (simp <;> omega)))))) rfl) hl).mono ?_; rintro e w2 ⟨rfl, rfl⟩
    rw [HB.out]
    have x0 : (w.alloc (.cells #[.int .i64 0, .slice none 0 0] 25)).cell? ⟨w.heap.size, 0, none⟩ = some (.int .i64 0) := (by repeat (first | (refine Eq.trans (World.cell?_alloc_at _ _ _ _ ?hh) ?_; (case hh => (simp; done)); rfl) | refine cell_alloc_keep _ ?_))
    have x1 : (w.alloc (.cells #[.int .i64 0, .slice none 0 0] 25)).cell? ⟨w.heap.size, 1, none⟩ = some (.slice none 0 0) := (by repeat (first | (refine Eq.trans (World.cell?_alloc_at _ _ _ _ ?hh) ?_; (case hh => (simp; done)); rfl) | refine cell_alloc_keep _ ?_))
    have y0 : (w.alloc (.cells #[.int .i64 0, .slice none 0 0] 25)).frozen? ⟨w.heap.size, 0, none⟩ = false := (by repeat (first | (refine World.frozen?_alloc_at _ _ _ _ ?hh; case hh => (simp; done)) | (refine frozen_alloc_lt _ ?hh ?_; case hh => first | omega | (simp <;> omega))))
    have y1 : (w.alloc (.cells #[.int .i64 0, .slice none 0 0] 25)).frozen? ⟨w.heap.size, 1, none⟩ = false := (by repeat (first | (refine World.frozen?_alloc_at _ _ _ _ ?hh; case hh => (simp; done)) | (refine frozen_alloc_lt _ ?hh ?_; case hh => first | omega | (simp <;> omega))))
    have HW := Lib.hid (show Below w.heap.size w (w.alloc (.cells #[.int .i64 0, .slice none 0 0] 25)) from (by repeat (first | exact Below.refl _ _ | assumption | refine Below.drew ?_ | refine below_drewN ?_ _ | refine Below.alloc ?_ (by first | omega | (simp <;> omega)) _ | refine Below.setCell ?_ (by first | omega | (simp <;> omega)) _ | refine Below.trans ?_ (Below.mono (by assumption) (by first | omega | (simp <;> omega))))))
    have hsz : w.heap.size < (w.alloc (.cells #[.int .i64 0, .slice none 0 0] 25)).heap.size := by simp
    generalize (w.alloc (.cells #[.int .i64 0, .slice none 0 0] 25)) = W at *
    go_wp2_with fail
    refine (impl_gray_any m v _ _ (Rd.below HI.out HW.out rfl) HS.out h1 h5).mono ?_; rintro e w2 ⟨u2, rfl, ho2, hb2⟩
    replace x0 := bel_cell hb2 x0; replace x1 := bel_cell hb2 x1
    have z0 := below_frz hb2 rfl hsz y0; have z1 := below_frz hb2 rfl hsz y1
    have HB2 := Lib.hid (Below.trans HW.out (hb2.mono (by omega)))
    have hs2 := hb2.size
    have HO2 := Lib.hid (OwnE.rd ho2)
    clear y0 y1 ho2 hb2
    go_wp2_with fail
    refine (impl_circuitIf_any (m : Int) _ (gAll m (zs.map Int.toNat)) _ HO2.out (by have := HL.out; omega)).mono ?_
    rw [HC.out]
    rintro e w3 ⟨u3, rfl, ho3, hb3⟩
    obtain ⟨SG, hSG⟩ : ∃ SG, SG = grG m zs := ⟨_, rfl⟩
    rw [← hSG] at ho3 ⊢
    have HSG := Lib.hid hSG; clear hSG
    replace x0 := bel_cell hb3 x0; replace x1 := bel_cell hb3 x1
    have y0 := below_frz hb3 rfl (by omega) z0; have y1 := below_frz hb3 rfl (by omega) z1
    have HB3 := Lib.hid (Below.trans HB2.out (hb3.mono (by omega)))
    have hs3 := hb3.size
    obtain ⟨aV, cV, rfl⟩ := ho3.forms
    have HO3 := Lib.hid ho3
    clear z0 z1 ho3 hb3
    have hZ := box_set2 (nb := w.heap.size) (.int .i64 (SG.getD Circ.zero).n) (.slice aV (SG.getD Circ.zero).gs.length cV) x0 x1
    have bq := HB3.out
    go_wp2_with fail
    exact bodyPost_ret (v := .tuple #[.agg #[.int .i64 (SG.getD Circ.zero).n, .slice aV (SG.getD Circ.zero).gs.length cV], .bool SG.isSome]) (by simp [results, Try.results7, go_sem, hZ]) rfl (by rw [← HSG.out]; exact ⟨_, rfl, OwnE.le (OwnE.set (OwnE.set HO3.out (by show w.heap.size < _; omega) _) (by show w.heap.size < _; omega) _) (by omega), (by repeat (first | exact Below.refl _ _ | assumption | refine Below.drew ?_ | refine below_drewN ?_ _ | refine Below.alloc ?_ (by first | omega | (simp <;> omega)) _ | refine Below.setCell ?_ (by first | omega | (simp <;> omega)) _ | refine Below.trans ?_ (Below.mono (by assumption) (by first | omega | (simp <;> omega)))))⟩)
end Go.Proofs.Ytgonldkgghikiaa
namespace Go.Proofs.Ytgonldkgghikiaa
set_option linter.unusedSimpArgs false
set_option linter.unusedVariables false
set_option linter.unnecessarySimpa false
set_option maxRecDepth 200000
open Go.ChangeShapes Go.WideShapes Go.ChangeAt Go.RowKit

/-- Rows apart from one another, and lists that some of them share, apart from the rows. -/
structure Fam2 (w : World) (B : Nat) (R F : List Row) : Prop where
  fam : Fam w B R
  own : ∀ r ∈ F, Row.own w B r
  off : ∀ a ∈ F, ∀ b ∈ R, Row.off a b
section
variable {w w' : World} {B : Nat} {R R' F F' : List Row} {r r' : Row}
theorem Fam2.call (h : Fam2 w B R F) (hb : Below w.heap.size w w') : Fam2 w' B R F := ⟨h.fam.call hb, fun r hr => own_below (h.own r hr) hb rfl, h.off⟩
theorem Fam2.perm (h : Fam2 w B R F) (hp : R.Perm R') : Fam2 w B R' F := ⟨h.fam.perm hp, h.own, fun a ha b hb => h.off a ha b (hp.mem_iff.2 hb)⟩
theorem Fam2.lists (h : Fam2 w B R F) (hs : ∀ a ∈ F', a ∈ F) : Fam2 w B R F' := ⟨h.fam, fun r hr => h.own r (hs r hr), fun a ha => h.off a (hs a ha)⟩
theorem Fam2.tail (h : Fam2 w B (r :: R) F) : Fam2 w B R F := ⟨h.fam.tail, h.own, fun a ha b hb => h.off a ha b (by simp [hb])⟩
theorem Fam2.sub (h : Fam2 w B R F) (hs : List.Sublist R' R) : Fam2 w B R' F := ⟨h.fam.take_sub hs, h.own, fun a ha b hb => h.off a ha b (hs.subset hb)⟩
theorem Fam2.upd (h : Fam2 w B (r :: R) F) (hg : w.grownBy w' r.v.ownBlock) (ho : Row.own w' B r') (hat : r'.v.ownBlock = r.v.ownBlock ∨ r'.v.ownBlock = some w.heap.size) : Fam2 w' B (r' :: R) F := by
  refine ⟨h.fam.upd hg ho hat, fun a ha => own_other hg (h.own a ha) (fun g e1 e2 => h.off a ha r (by simp) g e1 e2), fun a ha b hb => ?_⟩
  rcases List.mem_cons.1 hb with rfl | hb
  · intro g e e2
    rcases hat with e3 | e3
    · rw [e3] at e2; exact h.off a ha r (by simp) g e e2
    · rw [e3] at e2; injection e2 with e2
      have := (World.ownsRow.lt (h.own a ha) g e).2
      omega
  · exact h.off a ha b (by simp [hb])
theorem Fam2.join {R2 : List Row} (h : Fam2 w B R F) (hb : Below w.heap.size w w') (h2 : Fam w' w.heap.size R2) (hB : B ≤ w.heap.size) : Fam2 w' B (R2 ++ R) F := by
  refine ⟨h.fam.join hb h2 hB, (h.call hb).own, fun a ha b hb2 g e e2 => ?_⟩
  rcases List.mem_append.1 hb2 with hb2 | hb2
  · have h3 := (World.ownsRow.lt (h2.own b hb2) g e2).1
    have h4 := (World.ownsRow.lt (h.own a ha) g e).2
    omega
  · exact h.off a ha b hb2 g e e2
/-- A list that a call has just made. -/
theorem Fam2.list (h : Fam2 w B R F) (hb : Below w.heap.size w w') (ho : Row.own w' w.heap.size r) (hB : B ≤ w.heap.size) : Fam2 w' B R (r :: F) := by
  have hc := h.call hb
  refine ⟨hc.fam, fun a ha => ?_, fun a ha b hb2 g e e2 => ?_⟩
  · rcases List.mem_cons.1 ha with rfl | ha
    · exact own_le ho hB
    · exact hc.own a ha
  · rcases List.mem_cons.1 ha with rfl | ha
    · have h3 := (World.ownsRow.lt ho g e).1
      have h4 := (World.ownsRow.lt (h.fam.own b hb2) g e2).2
      omega
    · exact h.off a ha b hb2 g e e2
end
/-- A box of the call's own in which no row lies. -/
structure Bx (w : World) (B : Nat) (R : List Row) (b : Nat) (us : List Value) : Prop where
  cs : ∀ i u, us[i]? = some u → w.cell? ⟨b, i, none⟩ = some u
  fz : ∀ i, i < us.length → w.frozen? ⟨b, i, none⟩ = false
  off : ∀ r ∈ R, r.v.ownBlock ≠ some b
  ge : B ≤ b
  lt : b < w.heap.size
section
variable {w w' : World} {B b : Nat} {R R' : List Row} {r r' : Row} {us : List Value}
theorem Bx.call (h : Bx w B R b us) (hb : Below w.heap.size w w') : Bx w' B R b us :=
  ⟨fun i u hu => bel_cell hb (h.cs i u hu), fun i hi => below_frz hb rfl h.lt (h.fz i hi), h.off, h.ge, Nat.lt_of_lt_of_le h.lt hb.size⟩
theorem Bx.rows (h : Bx w B R b us) (hs : ∀ r ∈ R', r ∈ R) : Bx w B R' b us := ⟨h.cs, h.fz, fun r hr => h.off r (hs r hr), h.ge, h.lt⟩
theorem Bx.upd (h : Bx w B (r :: R) b us) (hg : w.grownBy w' r.v.ownBlock) (hat : r'.v.ownBlock = r.v.ownBlock ∨ r'.v.ownBlock = some w.heap.size) : Bx w' B (r' :: R) b us := by
  have hn := h.off r (by simp)
  refine ⟨fun i u hu => cell_grown hg (h.cs i u hu) hn, fun i hi => frz_grown hg h.lt (h.fz i hi) hn, fun x hx => ?_, h.ge, Nat.lt_of_lt_of_le h.lt hg.size⟩
  rcases List.mem_cons.1 hx with rfl | hx
  · rcases hat with e | e
    · rw [e]; exact hn
    · rw [e]; intro e2; injection e2 with e2; have := h.lt; omega
  · exact h.off x (by simp [hx])
theorem Bx.join {R2 : List Row} (h : Bx w B R b us) (hb : Below w.heap.size w w') (h2 : ∀ r ∈ R2, Row.own w' w.heap.size r) : Bx w' B (R2 ++ R) b us := by
  have hc := h.call hb
  refine ⟨hc.cs, hc.fz, fun x hx e => ?_, h.ge, hc.lt⟩
  rcases List.mem_append.1 hx with hx | hx
  · have := (World.ownsRow.lt (h2 x hx) b e).1
    have := h.lt
    omega
  · exact h.off x hx e
theorem Bx.make (us : List Value) (t : TypeId) (hR : ∀ r ∈ R, Row.own w B r) (hB : B ≤ w.heap.size) : Bx (w.alloc (.cells us.toArray t)) B R w.heap.size us := by
  refine ⟨fun i u hu => ?_, fun i _ => new_frz _ _ _ _, fun r hr e => ?_, hB, by simp⟩
  · have := news_cells w us t i u hu
    rwa [Addr.add_lit, Nat.zero_add] at this
  · have := (World.ownsRow.lt (hR r hr) _ e).2
    omega
end
def frow (y : TM) : Row := nrow y.md (setB y.x.fm 5)
theorem frow_add (j t : Nat) (y : TM) : frow (y.add j t) = frow y := rfl
end Go.Proofs.Ytgonldkgghikiaa
namespace Go.Proofs.Ytgonldkgghikiaa
set_option linter.unusedSimpArgs false
set_option linter.unusedVariables false
set_option linter.unnecessarySimpa false
set_option maxRecDepth 200000
open Go.ChangeShapes Go.WideShapes Go.ChangeAt Go.RowKit

theorem info_l14Task : (Try.prog.info? 58).map (fun i => (i.zero, i.size, i.bytes)) = some (some (.agg #[.slice none 0 0, .slice none 0 0, .int .i64 0]), 3, 56) := by kernel_rfl
theorem setB_full : ∀ n : Nat, n ≤ 5 → setB (2 ^ n - 1) 5 = List.range n := by decide +kernel
def srows (vO vS : Value) (T : List TM) (O : List E3) : List Row := T.map vrow ++ [orow vO O, trow 58 vS T]
/-- The reference's state between rounds. -/
structure SMem (n : Nat) (masks : List Nat) (B f bR bC : Nat) (w0 w : World) (vO vS : Value) (T : List TM) (O : List E3) : Prop where
  fam : Fam2 w B (srows vO vS T O) (T.map frow)
  bxR : Bx w B (srows vO vS T O) bR [.int .i64 0, .slice none 0 0]
  bxC : Bx w B (srows vO vS T O) bC [.int .i64 (n : Int), vO]
  offF : ∀ a ∈ T.map frow, a.v.ownBlock ≠ some bC
  inv : GInv n f (T.map TM.x).reverse O
  run : gLoop n f (T.map TM.x).reverse O = gAll n masks
  bel : Below B w0 w
  BW : B ≤ w.heap.size
theorem one_fam {w : World} {B : Nat} {r : Row} (h : Row.own w B r) : Fam w B [r] := ⟨fun x hx => by simp only [List.mem_singleton] at hx; subst hx; exact h, List.pairwise_singleton _ _⟩
theorem stack_one {w : World} (y : TM) : Row.own (w.alloc (.cells #[y.vv, y.md, .int .i64 y.x.tg] 58)) w.heap.size (trow 58 (.slice (some ⟨w.heap.size, 0, none⟩) 1 1) [y]) := by
  refine ⟨rfl, .inr ⟨w.heap.size, 1, #[y.vv, y.md, .int .i64 y.x.tg], rfl, Nat.le_refl _, ?_, Nat.le_refl _, by unfold maxLen; omega, rfl, rfl⟩⟩
  show (w.heap.push _)[w.heap.size]? = _
  simp
  rfl
theorem SMem.start {n B bR bC : Nat} {masks : List Nat} {w0 wr w2 : World} {v2 v6 : Value} (n5 : n ≤ 5) (hs : Sm masks) (hB : B ≤ wr.heap.size) (h6 : Row.own wr B (nrow v6 (List.range n)))
    (bR1 : Bx wr B [] bR [.int .i64 0, .slice none 0 0]) (bC1 : Bx wr B [] bC [.int .i64 (n : Int), .slice none 0 0]) (h2 : Row.own w2 wr.heap.size (nrow v2 masks)) (hb2 : Below wr.heap.size wr w2) (hb : Below B w0 wr) (h6b : v6.ownBlock ≠ some bC) :
    SMem n masks B 63 bR bC w0 (w2.alloc (.cells #[v2, v6, .int .i64 (-1)] 58)) (.slice none 0 0) (.slice (some ⟨w2.heap.size, 0, none⟩) 1 1) [⟨⟨masks, 2 ^ n - 1, -1⟩, v2, v6⟩] [] := by
  have hal : Below w2.heap.size w2 (w2.alloc (.cells #[v2, v6, .int .i64 (-1)] 58)) := Below.alloc (Below.refl _ _) (Nat.le_refl _) _
  have hsz := hb2.size
  have hST := stack_one (w := w2) ⟨⟨masks, 2 ^ n - 1, -1⟩, v2, v6⟩
  have f0 : Fam2 wr B [] [nrow v6 (List.range n)] := ⟨⟨fun r hr => (by cases hr), List.Pairwise.nil⟩, fun r hr => (by simp only [List.mem_singleton] at hr; subst hr; exact h6), fun a _ b hb => (by cases hb)⟩
  have f1 := f0.join hb2 (one_fam h2) hB
  have hO : Row.own (w2.alloc (.cells #[v2, v6, .int .i64 (-1)] 58)) w2.heap.size (orow (.slice none 0 0) []) := World.ownsRow_nil _ _ _ _
  have own2 : ∀ r ∈ [orow (.slice none 0 0) [], trow 58 (.slice (some ⟨w2.heap.size, 0, none⟩) 1 1) [(⟨⟨masks, 2 ^ n - 1, -1⟩, v2, v6⟩ : TM)]], Row.own (w2.alloc (.cells #[v2, v6, .int .i64 (-1)] 58)) w2.heap.size r := fun r hr => by
    simp only [List.mem_cons, List.not_mem_nil, or_false] at hr
    rcases hr with rfl | rfl
    · exact hO
    · exact hST
  have f2 := f1.join hal (⟨own2, List.pairwise_cons.2 ⟨fun a _ g e => by simp [orow, Value.ownBlock] at e, List.pairwise_singleton _ _⟩⟩ : Fam _ _ _) (Nat.le_trans hB hsz)
  have own1 : ∀ r ∈ [nrow v2 masks], Row.own w2 wr.heap.size r := fun r hr => by simp only [List.mem_singleton] at hr; subst hr; exact h2
  have bR2 := (bR1.join hb2 own1).join hal own2
  have bC2 := (bC1.join hb2 own1).join hal own2
  have hp : ([orow (.slice none 0 0) [], trow 58 (.slice (some ⟨w2.heap.size, 0, none⟩) 1 1) [(⟨⟨masks, 2 ^ n - 1, -1⟩, v2, v6⟩ : TM)]] ++ ([nrow v2 masks] ++ [])).Perm (srows (.slice none 0 0) (.slice (some ⟨w2.heap.size, 0, none⟩) 1 1) [⟨⟨masks, 2 ^ n - 1, -1⟩, v2, v6⟩] []) := List.perm_append_comm
  refine ⟨(f2.perm hp).lists (fun a ha => ?_), bR2.rows (fun r hr => hp.mem_iff.2 hr), bC2.rows (fun r hr => hp.mem_iff.2 hr), fun a ha => (by simp only [List.map_cons, List.map_nil, List.mem_singleton] at ha; rw [ha]; exact h6b), gInv_start n5 hs, rfl, Below.trans hb (Below.trans (hb2.mono hB) (hal.mono (Nat.le_trans hB hsz))), Nat.le_trans hB (Nat.le_trans hsz hal.size)⟩
  simp only [List.map_cons, List.map_nil, List.mem_singleton] at ha ⊢
  rw [ha]
  unfold frow
  dsimp only
  rw [setB_full n n5]
/-- The reference's state within a round: the task y lies in the box bx, the stack is already cut. -/
structure SIw (n B bR bC bx : Nat) (w0 w : World) (vO vS : Value) (T : List TM) (y : TM) (O : List E3) : Prop where
  fam : Fam2 w B (vrow y :: srows vO vS T O) (frow y :: T.map frow)
  bxR : Bx w B (vrow y :: srows vO vS T O) bR [.int .i64 0, .slice none 0 0]
  bxC : Bx w B (vrow y :: srows vO vS T O) bC [.int .i64 (n : Int), vO]
  bxT : Bx w B (vrow y :: srows vO vS T O) bx [y.vv, y.md, .int .i64 y.x.tg]
  offF : ∀ a ∈ frow y :: T.map frow, a.v.ownBlock ≠ some bC
  neT : bC ≠ bx
  neR : bC ≠ bR
  bel : Below B w0 w
  BW : B ≤ w.heap.size
section
variable {n B bR bC bx : Nat} {w0 w w' : World} {vO vS : Value} {T : List TM} {y : TM} {O : List E3}
theorem SIw.call (h : SIw n B bR bC bx w0 w vO vS T y O) (hb : Below w.heap.size w w') : SIw n B bR bC bx w0 w' vO vS T y O :=
  ⟨h.fam.call hb, h.bxR.call hb, h.bxC.call hb, h.bxT.call hb, h.offF, h.neT, h.neR, Below.trans h.bel (hb.mono h.BW), Nat.le_trans h.BW hb.size⟩
theorem srows_cut {g c : Nat} {F : List Row} (h : Fam2 w B (srows vO (.slice (some ⟨g, 0, none⟩) (T.length + 1) c) (T ++ [y]) O) F) :
    Fam2 w B (vrow y :: srows vO (.slice (some ⟨g, 0, none⟩) T.length c) T O) F := by
  have h1 : Fam2 w B (trow 58 (.slice (some ⟨g, 0, none⟩) (T.length + 1) c) (T ++ [y]) :: ((T ++ [y]).map vrow ++ [orow vO O])) F := by
    refine h.perm ?_
    unfold srows
    rw [show ((T ++ [y]).map vrow ++ [orow vO O, trow 58 (.slice (some ⟨g, 0, none⟩) (T.length + 1) c) (T ++ [y])]) = ((T ++ [y]).map vrow ++ [orow vO O]) ++ [trow 58 (.slice (some ⟨g, 0, none⟩) (T.length + 1) c) (T ++ [y])] from by rw [List.append_assoc]; rfl]
    exact List.perm_append_comm
  have ho : w.ownsRow B 58 3 (.slice (some ⟨g, 0, none⟩) (T.length + 1) c) (T.length + 1) ((T ++ [y]).flatMap TM.cs) := by
    have h9 := h1.fam.head
    unfold Row.own trow at h9
    dsimp only at h9
    rw [show (T ++ [y]).length = T.length + 1 from by simp] at h9
    exact h9
  have hc := own_cut ho (m := T.length) (by omega)
  rw [stack_take] at hc
  have h2 := h1.upd (r' := trow 58 (.slice (some ⟨g, 0, none⟩) T.length c) T) (grown_refl w _) hc (.inl rfl)
  refine h2.perm ?_
  unfold srows
  rw [List.map_append, List.append_assoc]
  have e : (vrow y :: (T.map vrow ++ [orow vO O, trow 58 (.slice (some ⟨g, 0, none⟩) T.length c) T])) = (vrow y :: (T.map vrow ++ [orow vO O])) ++ [trow 58 (.slice (some ⟨g, 0, none⟩) T.length c) T] := by simp
  rw [e]
  refine (List.Perm.trans ?_ List.perm_append_comm)
  exact List.Perm.cons _ List.perm_middle
theorem Bx.cut {g c b : Nat} {us : List Value} (h : Bx w B (srows vO (.slice (some ⟨g, 0, none⟩) (T.length + 1) c) (T ++ [y]) O) b us) :
    Bx w B (vrow y :: srows vO (.slice (some ⟨g, 0, none⟩) T.length c) T O) b us := by
  refine ⟨h.cs, h.fz, fun r hr => ?_, h.ge, h.lt⟩
  have hy : ∀ z ∈ T ++ [y], (vrow z).v.ownBlock ≠ some b := fun z hz => h.off (vrow z) (List.mem_append_left _ (List.mem_map_of_mem hz))
  rcases List.mem_cons.1 hr with rfl | hr
  · exact hy y (by simp)
  · rcases List.mem_append.1 hr with hr | hr
    · obtain ⟨z, hz, rfl⟩ := List.mem_map.1 hr
      exact hy z (List.mem_append_left _ hz)
    · simp only [List.mem_cons, List.not_mem_nil, or_false] at hr
      rcases hr with rfl | rfl
      · exact h.off (orow vO O) (List.mem_append_right _ (by simp))
      · exact h.off (trow 58 (.slice (some ⟨g, 0, none⟩) (T.length + 1) c) (T ++ [y])) (List.mem_append_right _ (by simp))
theorem SIw.start {f g c : Nat} {masks : List Nat} (hR : bC ≠ bR) (h : SMem n masks B f bR bC w0 w vO (.slice (some ⟨g, 0, none⟩) (T.length + 1) c) (T ++ [y]) O) :
    SIw n B bR bC w.heap.size w0 (w.alloc (.cells #[y.vv, y.md, .int .i64 y.x.tg] 58)) vO (.slice (some ⟨g, 0, none⟩) T.length c) T y O := by
  have hal : Below w.heap.size w (w.alloc (.cells #[y.vv, y.md, .int .i64 y.x.tg] 58)) := Below.alloc (Below.refl _ _) (Nat.le_refl _) _
  have hf := srows_cut h.fam
  refine ⟨(hf.lists (fun a ha => ?_)).call hal, h.bxR.cut.call hal, h.bxC.cut.call hal, Bx.make [y.vv, y.md, .int .i64 y.x.tg] 58 (fun r hr => hf.fam.own r hr) h.BW, fun a ha => h.offF a ?_, fun e => (by have := h.bxC.lt; omega), hR, Below.trans h.bel (hal.mono h.BW), Nat.le_trans h.BW hal.size⟩
  all_goals
    rcases List.mem_cons.1 ha with rfl | ha
    · exact List.mem_map_of_mem (by simp)
    · rw [List.map_append]; exact List.mem_append_left _ ha
theorem grown_box (w : World) (b o : Nat) (u : Value) : w.grownBy (w.setCell ⟨b, o, none⟩ u) (some b) := by
  have q : Below 0 w (w.setCell ⟨b, o, none⟩ u) := Below.setCell (p := ⟨b, o, none⟩) (Below.refl 0 w) (Nat.zero_le _) u
  exact ⟨q.os, q.tape, q.output, q.size, fun k hk hne => Below.heap_setCell _ _ _ k (fun e => hne (by rw [e]))⟩
theorem row_box {r : Row} {b o : Nat} {u : Value} (h : Row.own w B r) (hn : r.v.ownBlock ≠ some b) : Row.own (w.setCell ⟨b, o, none⟩ u) B r := by
  have hg' : w.grownBy (w.setCell ⟨b, o, none⟩ u) (Value.slice (some ⟨b, 0, none⟩) 0 0).ownBlock := grown_box w b o u
  refine own_other hg' h (fun g e1 e2 => hn (e1.trans ?_))
  rw [← e2]; rfl
theorem Fam2.box {R F : List Row} {b : Nat} (h : Fam2 w B R F) (hg : w.grownBy w' (some b)) (h1 : ∀ r ∈ R, r.v.ownBlock ≠ some b) (h2 : ∀ r ∈ F, r.v.ownBlock ≠ some b) : Fam2 w' B R F := by
  have hg' : w.grownBy w' (Value.slice (some ⟨b, 0, none⟩) 0 0).ownBlock := hg
  refine ⟨⟨fun r hr => own_other hg' (h.fam.own r hr) (fun g e1 e2 => h1 r hr (e1.trans ?_)), h.fam.ap⟩, fun r hr => own_other hg' (h.own r hr) (fun g e1 e2 => h2 r hr (e1.trans ?_)), h.off⟩
  all_goals
    rw [← e2]; rfl
theorem Bx.other {R : List Row} {b b2 : Nat} {us : List Value} (h : Bx w B R b us) (hg : w.grownBy w' (some b2)) (hne : b2 ≠ b) : Bx w' B R b us := by
  have hg' : w.grownBy w' (Value.slice (some ⟨b2, 0, none⟩) 0 0).ownBlock := hg
  have hn : (Value.slice (some ⟨b2, 0, none⟩) 0 0).ownBlock ≠ some b := fun e => hne (by injection e)
  exact ⟨fun i u hu => cell_grown hg' (h.cs i u hu) hn, fun i hi => frz_grown hg' h.lt (h.fz i hi) hn, h.off, h.ge, Nat.lt_of_lt_of_le h.lt hg.size⟩
end
section
variable {n B bR bC bx : Nat} {w0 w w' : World} {vO vS : Value} {T : List TM} {y : TM} {O : List E3}
theorem srows_out (vO vS : Value) (T : List TM) (y : TM) (O : List E3) : (vrow y :: srows vO vS T O).Perm (orow vO O :: (vrow y :: (T.map vrow ++ [trow 58 vS T]))) := by
  unfold srows
  exact (List.Perm.cons _ List.perm_middle).trans (List.Perm.swap _ _ _)
/-- A gate is appended and the box of the circuit holds the new slice. -/
theorem SIw.app {g : E3} {v3 : Value} (h : SIw n B bR bC bx w0 w vO vS T y O) (hg : w.grownBy w' vO.ownBlock) (ho : w'.ownsRow B 62 3 v3 (O.length + 1) (O.flatMap E3.cs ++ g.cs)) (hat : v3.ownBlock = vO.ownBlock ∨ v3.ownBlock = some w.heap.size) :
    SIw n B bR bC bx w0 (w'.setCell ⟨bC, 1, none⟩ v3) v3 vS T y (O ++ [g]) := by
  have hp := srows_out vO vS T y O
  have hq := srows_out v3 vS T y (O ++ [g])
  have ho' : Row.own w' B (orow v3 (O ++ [g])) := by
    show w'.ownsRow B 62 3 v3 (O ++ [g]).length ((O ++ [g]).flatMap E3.cs)
    rw [show (O ++ [g]).length = O.length + 1 from by simp, List.flatMap_append]
    simpa using ho
  have hbO := grown_below h.bel (show w.ownsRow B 62 3 vO O.length _ from (h.fam.perm hp).fam.head) hg (Nat.le_refl _) h.BW
  have f1 := ((h.fam.perm hp).upd hg ho' hat).perm hq.symm
  have up : ∀ {b : Nat} {us : List Value}, Bx w B (vrow y :: srows vO vS T O) b us → Bx w' B (vrow y :: srows v3 vS T (O ++ [g])) b us := fun hb => ((hb.rows (fun r hr => hp.mem_iff.2 hr)).upd hg hat).rows (fun r hr => hq.mem_iff.1 hr)
  have b1 := up h.bxC
  have gb := grown_box w' bC 1 v3
  refine ⟨f1.box gb b1.off h.offF, (up h.bxR).other gb h.neR, ⟨fun i u hu => ?_, fun i hi => ?_, b1.off, b1.ge, Nat.lt_of_lt_of_le b1.lt gb.size⟩, (up h.bxT).other gb h.neT, h.offF, h.neT, h.neR, ?_, Nat.le_trans h.BW (Nat.le_trans hg.size gb.size)⟩
  · have c0 := b1.cs 0 _ rfl
    have c1 := b1.cs 1 _ rfl
    match i with
    | 0 => injection hu with hu; subst hu; exact cell_set_other c0
    | 1 => injection hu with hu; subst hu; exact World.cell?_setCell_same _ _ _ c1
    | i + 2 => simp at hu
  · rw [World.frozen?_setCell]; exact b1.fz i hi
  · exact Below.grown hbO gb (Nat.le_trans h.BW hg.size) (fun k hk => (by injection hk with hk; rw [← hk]; exact h.bxC.ge))
/-- The task's own vectors are added to. -/
theorem SIw.addY {j t : Nat} (h : SIw n B bR bC bx w0 w vO vS T y O) (ho : Row.own w' B (nrow y.vv (addL j t y.x.vs))) (hg : w.grownBy w' y.vv.ownBlock) : SIw n B bR bC bx w0 w' vO vS T (y.add j t) O := by
  have up : ∀ {b : Nat} {us : List Value}, Bx w B (vrow y :: srows vO vS T O) b us → Bx w' B (vrow (y.add j t) :: srows vO vS T O) b us := fun hb => hb.upd hg (.inl rfl)
  exact ⟨h.fam.upd (r' := vrow (y.add j t)) hg ho (.inl rfl), up h.bxR, up h.bxC, up h.bxT, h.offF, h.neT, h.neR, grown_below h.bel (show w.ownsRow B 3 1 y.vv _ _ from h.fam.fam.head) hg (Nat.le_refl _) h.BW, Nat.le_trans h.BW hg.size⟩
theorem SIw.mem {masks : List Nat} {f : Nat} (h : SIw n B bR bC bx w0 w vO vS T y O) (hi : GInv n f (T.map TM.x).reverse O) (hr : gLoop n f (T.map TM.x).reverse O = gAll n masks) : SMem n masks B f bR bC w0 w vO vS T O :=
  ⟨h.fam.tail.lists (fun a ha => List.mem_cons_of_mem _ ha), h.bxR.rows (fun r hr => List.mem_cons_of_mem _ hr), h.bxC.rows (fun r hr => List.mem_cons_of_mem _ hr), fun a ha => h.offF a (List.mem_cons_of_mem _ ha), hi, hr, h.bel, h.BW⟩
theorem inAll_set (vs : List Nat) (j : Nat) : inAllB vs j = decide ((gSet vs j false).length = 0) := by
  unfold inAllB gSet
  induction vs with
  | nil => rfl
  | cons v r ih =>
    rw [List.all_cons, List.filter_cons]
    cases h : v.testBit j
    · simp
    · simp [ih]
theorem inv_cut {j t i : Nat} {T : List TM} (hi : i < T.length) : invTo j t T i = (T.take i).map (TM.add j t) ++ T[i] :: T.drop (i + 1) := by
  unfold invTo; rw [List.drop_eq_getElem_cons hi]
theorem inv_next {j t i : Nat} {T : List TM} (hi : i < T.length) : invTo j t T (i + 1) = (T.take i).map (TM.add j t) ++ (T[i].add j t) :: T.drop (i + 1) := by
  unfold invTo
  rw [List.take_succ_eq_append_getElem hi, List.map_append, List.append_assoc]; rfl
theorem trow_mid (k : TypeId) (v : Value) (A C : List TM) (z : TM) (j t : Nat) : trow k v (A ++ z.add j t :: C) = trow k v (A ++ z :: C) := by
  unfold trow
  simp only [List.length_append, List.length_cons, List.flatMap_append, List.flatMap_cons]
  rfl
theorem srows_mid (vO vS : Value) (A C : List TM) (z y : TM) (O : List E3) : (vrow y :: srows vO vS (A ++ z :: C) O).Perm (vrow z :: (vrow y :: (A.map vrow ++ (C.map vrow ++ [orow vO O, trow 58 vS (A ++ z :: C)])))) := by
  unfold srows
  rw [List.map_append, List.map_cons, List.append_assoc, List.cons_append]
  exact (List.Perm.cons _ List.perm_middle).trans (List.Perm.swap _ _ _)
/-- The vectors of a task on the stack are added to. -/
theorem SIw.mid {j t : Nat} {A C : List TM} {z : TM} (h : SIw n B bR bC bx w0 w vO vS (A ++ z :: C) y O) (ho : Row.own w' B (nrow z.vv (addL j t z.x.vs))) (hg : w.grownBy w' z.vv.ownBlock) : SIw n B bR bC bx w0 w' vO vS (A ++ z.add j t :: C) y O := by
  have hp := srows_mid vO vS A C z y O
  have hq := srows_mid vO vS A C (z.add j t) y O
  rw [trow_mid] at hq
  have up : ∀ {b : Nat} {us : List Value}, Bx w B (vrow y :: srows vO vS (A ++ z :: C) O) b us → Bx w' B (vrow y :: srows vO vS (A ++ z.add j t :: C) O) b us := fun hb => ((hb.rows (fun r hr => hp.mem_iff.2 hr)).upd (r' := vrow (z.add j t)) hg (.inl rfl)).rows (fun r hr => hq.mem_iff.1 hr)
  have eF : (A ++ z.add j t :: C).map frow = (A ++ z :: C).map frow := by simp [frow_add]
  have f1 := ((h.fam.perm hp).upd (r' := vrow (z.add j t)) hg ho (.inl rfl)).perm hq.symm
  refine ⟨by rw [eF]; exact f1, up h.bxR, up h.bxC, up h.bxT, by rw [eF]; exact h.offF, h.neT, h.neR, grown_below h.bel (show w.ownsRow B 3 1 z.vv _ _ from (h.fam.perm hp).fam.head) hg (Nat.le_refl _) h.BW, Nat.le_trans h.BW hg.size⟩
theorem SIw.addAt {j t i : Nat} (hi : i < T.length) (h : SIw n B bR bC bx w0 w vO vS (invTo j t T i) y O) (ho : Row.own w' B (nrow T[i].vv (addL j t T[i].x.vs))) (hg : w.grownBy w' T[i].vv.ownBlock) : SIw n B bR bC bx w0 w' vO vS (invTo j t T (i + 1)) y O := by
  rw [inv_cut hi] at h
  rw [inv_next hi]
  exact h.mid ho hg
end
end Go.Proofs.Ytgonldkgghikiaa
namespace Go.Proofs.Ytgonldkgghikiaa
set_option linter.unusedSimpArgs false
set_option linter.unusedVariables false
set_option linter.unnecessarySimpa false
set_option maxRecDepth 200000
open Go.ChangeShapes Go.WideShapes Go.ChangeAt Go.RowKit

/-- The greater of two numbers. -/
theorem spec_l1Most_any (a b : Nat) (w : World) :
    Calls Try.prog 43 #[.int .i64 (a : Int), .int .i64 (b : Int)] w fun e w' => e = .returned (.int .i64 ((max a b : Nat) : Int)) ∧ w' = w := by
  go_enter Try.func43, Try.ntmps43
  by_cases h : b < a
  · have i1 : (b : Int) < (a : Int) := by omega
    have i2 : max a b = a := by omega
    go_wp2_with fail
    go_ret
    exact ⟨by (try rw [i2]); rfl, rfl⟩
  · have i1 : ¬ (b : Int) < (a : Int) := by omega
    have i2 : max a b = b := by omega
    go_wp2_with fail
    go_ret
    exact ⟨by (try rw [i2]); rfl, rfl⟩
theorem invTo_get {j t i : Nat} {T : List TM} (hi : i < T.length) : ∃ h : i < (invTo j t T i).length, (invTo j t T i)[i] = T[i] := by
  have hl : ((T.take i).map (TM.add j t)).length = i := by simp; omega
  have h1 : i < (invTo j t T i).length := by rw [inv_cut hi, List.length_append, hl, List.length_cons]; omega
  refine ⟨h1, ?_⟩
  have e := inv_cut (j := j) (t := t) hi
  have h2 : (invTo j t T i)[i]? = some T[i] := by
    rw [e, List.getElem?_append_right (by omega), hl, Nat.sub_self]; rfl
  rw [List.getElem?_eq_getElem h1] at h2
  injection h2
section
variable {n B bR bC bx : Nat} {w0 w w' : World} {vO vS : Value} {T : List TM} {y : TM} {O : List E3}
theorem SIw.at4 {j t i nS g c : Nat} (hi : i < T.length) (h : SIw n B bR bC bx w0 w vO (.slice (some ⟨g, 0, none⟩) nS c) (invTo j t T i) y O) :
    w.cell? ⟨g, i * 3, none⟩ = some (T[i]).vv ∧ w.cell? ⟨g, i * 3 + 1, none⟩ = some (T[i]).md ∧ w.cell? ⟨g, i * 3 + 2, none⟩ = some (.int .i64 (T[i]).x.tg) ∧
    Row.own w B (nrow (T[i]).vv (T[i]).x.vs) ∧ Row.own w B (frow T[i]) := by
  obtain ⟨h1, e⟩ := invTo_get (j := j) (t := t) hi
  obtain ⟨g', e1, _, c0, c1, c2⟩ := trow_cells (show Row.own w B (trow 58 (.slice (some ⟨g, 0, none⟩) nS c) (invTo j t T i)) from h.fam.fam.own _ (by simp [srows])) h1
  injection e1 with e1; injection e1 with e1
  subst e1
  rw [e] at c0 c1 c2
  have hm : T[i] ∈ invTo j t T i := by rw [← e]; exact List.getElem_mem h1
  exact ⟨c0, c1, c2, h.fam.fam.own (vrow T[i]) (List.mem_cons_of_mem _ (List.mem_append_left _ (List.mem_map_of_mem hm))), h.fam.own (frow T[i]) (List.mem_cons_of_mem _ (List.mem_map_of_mem hm))⟩
theorem SIw.stop {f : Nat} {masks v2 : List Nat} {x : GT} {r : List GT} {out : List E3} (hn : n ≤ 5) (hi : GInv n (f + 1) (x :: r) out) (hr : gLoop n (f + 1) (x :: r) out = gAll n masks) (hx : ¬ x.vs = [])
    (hI : gIns n x r out = ⟨v2, (T.map TM.x).reverse, O⟩) (hb : gBest v2 x.fm < 0) (h : SIw n B bR bC bx w0 w vO vS T y O) : SMem n masks B f bR bC w0 w vO vS T O := by
  have h1 := gInv_stop hn hi
  have h2 := gLoop_stop (n := n) (f := f) (r := r) (out := out) hx (by rw [hI]; exact hb)
  rw [hI] at h1 h2
  exact h.mem h1 (h2.symm.trans hr)
def tkS (vs : List Nat) (fm : Nat) (tg : Int) (u d : Value) : TM := ⟨⟨vs, fm, tg⟩, u, d⟩
/-- The split: the rest of the free qubits in a list of its own, two tasks laid on the stack. -/
theorem SIw.push {W W1 W2 W3 : World} {v3 d u1 u2 : Value} {L1 L2 : List Nat} {fm : Nat} {t1 t2 : Int} (h : SIw n B bR bC bx w0 W vO vS T y O)
    (hb1 : Below W.heap.size W W1) (hd : Row.own W1 W.heap.size (nrow d (setB fm 5)))
    (hb2 : Below W1.heap.size W1 W2) (hF : Fam W2 W1.heap.size [nrow u2 L2, nrow u1 L1]) (hb3 : Below W2.heap.size W2 W3)
    (hg : W3.grownBy w' vS.ownBlock) (ho : w'.ownsRow B 58 3 v3 (T.length + 2) (T.flatMap TM.cs ++ ((tkS L1 fm t1 u1 d).cs ++ (tkS L2 fm t2 u2 d).cs))) (hat : v3.ownBlock = vS.ownBlock ∨ v3.ownBlock = some W3.heap.size) :
    Fam2 w' B (srows vO v3 (T ++ [tkS L1 fm t1 u1 d, tkS L2 fm t2 u2 d]) O) ((T ++ [tkS L1 fm t1 u1 d, tkS L2 fm t2 u2 d]).map frow) ∧
    Bx w' B (srows vO v3 (T ++ [tkS L1 fm t1 u1 d, tkS L2 fm t2 u2 d]) O) bR [.int .i64 0, .slice none 0 0] ∧
    Bx w' B (srows vO v3 (T ++ [tkS L1 fm t1 u1 d, tkS L2 fm t2 u2 d]) O) bC [.int .i64 (n : Int), vO] ∧
    (∀ a ∈ (T ++ [tkS L1 fm t1 u1 d, tkS L2 fm t2 u2 d]).map frow, a.v.ownBlock ≠ some bC) ∧ Below B w0 w' ∧ B ≤ w'.heap.size := by
  have hB1 : B ≤ W1.heap.size := Nat.le_trans h.BW hb1.size
  have hB2 : B ≤ W2.heap.size := Nat.le_trans hB1 hb2.size
  have hB3 : B ≤ W3.heap.size := Nat.le_trans hB2 hb3.size
  have f1 := h.fam.list hb1 hd h.BW
  have f2 := (f1.join hb2 hF hB1).call hb3
  have hsub : List.Sublist ([nrow u2 L2, nrow u1 L1] ++ srows vO vS T O) ([nrow u2 L2, nrow u1 L1] ++ (vrow y :: srows vO vS T O)) := List.Sublist.append (List.Sublist.refl _) (List.sublist_cons_self _ _)
  have f3 := f2.sub hsub
  have hp : ([nrow u2 L2, nrow u1 L1] ++ srows vO vS T O).Perm (trow 58 vS T :: ([nrow u2 L2, nrow u1 L1] ++ (T.map vrow ++ [orow vO O]))) := by
    unfold srows
    rw [show ([nrow u2 L2, nrow u1 L1] ++ (T.map vrow ++ [orow vO O, trow 58 vS T])) = ([nrow u2 L2, nrow u1 L1] ++ (T.map vrow ++ [orow vO O])) ++ [trow 58 vS T] from by simp]
    exact List.perm_append_comm
  have hq : (trow 58 v3 (T ++ [tkS L1 fm t1 u1 d, tkS L2 fm t2 u2 d]) :: ([nrow u2 L2, nrow u1 L1] ++ (T.map vrow ++ [orow vO O]))).Perm (srows vO v3 (T ++ [tkS L1 fm t1 u1 d, tkS L2 fm t2 u2 d]) O) := by
    unfold srows
    rw [show ((T ++ [tkS L1 fm t1 u1 d, tkS L2 fm t2 u2 d]).map vrow ++ [orow vO O, trow 58 v3 (T ++ [tkS L1 fm t1 u1 d, tkS L2 fm t2 u2 d])]) = (T.map vrow ++ ([nrow u1 L1, nrow u2 L2] ++ [orow vO O])) ++ [trow 58 v3 (T ++ [tkS L1 fm t1 u1 d, tkS L2 fm t2 u2 d])] from by simp [vrow, tkS]]
    refine List.Perm.trans ?_ List.perm_append_comm
    refine List.Perm.cons _ ?_
    refine ((List.Perm.swap (nrow u1 L1) (nrow u2 L2) []).append_right (T.map vrow ++ [orow vO O])).trans ?_
    have := (List.perm_append_comm (l₁ := [nrow u1 L1, nrow u2 L2]) (l₂ := T.map vrow)).append_right [orow vO O]
    simpa using this
  have ho' : Row.own w' B (trow 58 v3 (T ++ [tkS L1 fm t1 u1 d, tkS L2 fm t2 u2 d])) := by
    show w'.ownsRow B 58 3 v3 (T ++ [tkS L1 fm t1 u1 d, tkS L2 fm t2 u2 d]).length ((T ++ [tkS L1 fm t1 u1 d, tkS L2 fm t2 u2 d]).flatMap TM.cs)
    rw [show (T ++ [tkS L1 fm t1 u1 d, tkS L2 fm t2 u2 d]).length = T.length + 2 from by simp, List.flatMap_append]
    simpa using ho
  have f4 := ((f3.perm hp).upd (r' := trow 58 v3 (T ++ [tkS L1 fm t1 u1 d, tkS L2 fm t2 u2 d])) hg ho' hat).perm hq
  have up : ∀ {b : Nat} {us : List Value}, Bx W B (vrow y :: srows vO vS T O) b us → Bx w' B (srows vO v3 (T ++ [tkS L1 fm t1 u1 d, tkS L2 fm t2 u2 d]) O) b us := fun hb => by
    have g1 := ((hb.call hb1).join hb2 hF.own).call hb3
    have g2 := (g1.rows (fun r hr => hsub.subset hr)).rows (fun r hr => hp.mem_iff.2 hr)
    exact (g2.upd (r' := trow 58 v3 (T ++ [tkS L1 fm t1 u1 d, tkS L2 fm t2 u2 d])) hg hat).rows (fun r hr => hq.mem_iff.2 hr)
  have hS : Row.own W3 B (trow 58 vS T) := (f3.perm hp).fam.head
  refine ⟨f4.lists (fun a ha => ?_), up h.bxR, up h.bxC, fun a ha => ?_, grown_below (Below.trans h.bel (Below.trans (hb1.mono h.BW) (Below.trans (hb2.mono hB1) (hb3.mono hB2)))) (show W3.ownsRow B 58 3 vS T.length _ from hS) hg (Nat.le_refl _) hB3, Nat.le_trans hB3 hg.size⟩
  · rw [List.map_append] at ha
    rcases List.mem_append.1 ha with ha | ha
    · exact List.mem_cons_of_mem _ (List.mem_cons_of_mem _ ha)
    · simp only [List.map_cons, List.map_nil, List.mem_cons, List.not_mem_nil, or_false] at ha
      rcases ha with rfl | rfl <;> exact List.mem_cons_self
  · rw [List.map_append] at ha
    rcases List.mem_append.1 ha with ha | ha
    · exact h.offF a (List.mem_cons_of_mem _ ha)
    · have e : a.v = d := by
        simp only [List.map_cons, List.map_nil, List.mem_cons, List.not_mem_nil, or_false] at ha
        rcases ha with rfl | rfl <;> rfl
      rw [e]
      intro e2
      have h3 := (World.ownsRow.lt hd _ e2).1
      have := h.bxC.lt
      omega
theorem SIw.split {f j : Nat} {W W1 W2 W3 : World} {masks v2 : List Nat} {x : GT} {r : List GT} {out : List E3} {v3 d u1 u2 : Value} {tg : Int} (hn : n ≤ 5)
    (hi : GInv n (f + 1) (x :: r) out) (hr : gLoop n (f + 1) (x :: r) out = gAll n masks) (hx : ¬ x.vs = []) (hI : gIns n x r out = ⟨v2, (T.map TM.x).reverse, O⟩) (hj : j ∈ setB x.fm 5) (hjn : j < n) (hb : gBest v2 x.fm = (j : Int)) (htg : tg = if x.tg < 0 then (j : Int) else x.tg)
    (h : SIw n B bR bC bx w0 W vO vS T y O)
    (hb1 : Below W.heap.size W W1) (hd : Row.own W1 W.heap.size (nrow d (setB (clearB x.fm j) 5)))
    (hb2 : Below W1.heap.size W1 W2) (hF : Fam W2 W1.heap.size [nrow u2 (gSet v2 j false), nrow u1 (gSet v2 j true)]) (hb3 : Below W2.heap.size W2 W3)
    (hg : W3.grownBy w' vS.ownBlock) (ho : w'.ownsRow B 58 3 v3 (T.length + 2) (T.flatMap TM.cs ++ ((tkS (gSet v2 j true) (clearB x.fm j) tg u1 d).cs ++ (tkS (gSet v2 j false) (clearB x.fm j) x.tg u2 d).cs))) (hat : v3.ownBlock = vS.ownBlock ∨ v3.ownBlock = some W3.heap.size) :
    SMem n masks B f bR bC w0 w' vO v3 (T ++ [tkS (gSet v2 j true) (clearB x.fm j) tg u1 d, tkS (gSet v2 j false) (clearB x.fm j) x.tg u2 d]) O := by
  have htg1 : -1 ≤ tg ∧ tg < (n : Int) := by
    have := (hi.ok x (by simp)).tg
    rw [htg]; split <;> omega
  have h1 := gInv_split (tg := tg) hn hi hj htg1
  have h2 := gLoop_split (n := n) (f := f) (j := j) (r := r) (out := out) hx (by rw [hI]; exact hb)
  rw [← htg] at h2
  rw [hI] at h1 h2
  have e : ((T ++ [(tkS (gSet v2 j true) (clearB x.fm j) tg u1 d : TM), tkS (gSet v2 j false) (clearB x.fm j) x.tg u2 d]).map TM.x).reverse = ⟨gSet v2 j false, clearB x.fm j, x.tg⟩ :: ⟨gSet v2 j true, clearB x.fm j, tg⟩ :: (T.map TM.x).reverse := by simp [tkS]
  obtain ⟨q1, q2, q3, q4, q5, q6⟩ := h.push hb1 hd hb2 hF hb3 hg ho hat
  exact ⟨q1, q2, q3, q4, by rw [e]; exact h1, by rw [e]; exact h2.symm.trans hr, q5, q6⟩
end
theorem frow_at {w : World} {B n c i : Nat} {a : Option Addr} {L : List Nat} (h : Row.own w B (nrow (.slice a n c) L)) (hi : i < L.length) :
    ∃ g, a = some ⟨g, 0, none⟩ ∧ g < w.heap.size ∧ w.cell? ⟨g, i, none⟩ = some (.int .i64 ((L.getD i 0 : Nat) : Int)) := by
  obtain ⟨g, c', e⟩ := Go.Joins.ownsRow_form h (by show 0 < L.length; omega)
  injection e with e1 e2 e3
  have hl := (World.ownsRow.lt h g (by show Value.ownBlock (.slice a n c) = _; rw [e1]; rfl)).2
  have h9 := World.ownsRow.cells h (g := g) (by show Value.ownBlock (.slice a n c) = _; rw [e1]; rfl) i (.int .i64 ((L.getD i 0 : Nat) : Int)) (by simp [nrow, ints, List.getD, hi])
  rw [Addr.add_lit, Nat.zero_add] at h9
  exact ⟨g, e1, hl, h9⟩
/-- The free qubits without one, counted from the front. -/
def restTo (fm j k : Nat) : List Nat := ((setB fm 5).take k).filter fun i => !decide (i = j)
theorem restTo_zero (fm j : Nat) : restTo fm j 0 = [] := rfl
theorem restTo_yes {fm j k : Nat} (hk : k < (setB fm 5).length) (h : (setB fm 5).getD k 0 ≠ j) : restTo fm j (k + 1) = restTo fm j k ++ [(setB fm 5).getD k 0] := by
  unfold restTo
  have e : (setB fm 5).getD k 0 = (setB fm 5)[k] := by simp [List.getD, hk]
  rw [e] at h ⊢
  rw [List.take_succ_eq_append_getElem hk, List.filter_append]
  simp [h]
theorem restTo_no {fm j k : Nat} (hk : k < (setB fm 5).length) (h : (setB fm 5).getD k 0 = j) : restTo fm j (k + 1) = restTo fm j k := by
  unfold restTo
  have e : (setB fm 5).getD k 0 = (setB fm 5)[k] := by simp [List.getD, hk]
  rw [e] at h
  rw [List.take_succ_eq_append_getElem hk, List.filter_append]
  simp [h]
theorem restTo_len (fm j k : Nat) : (restTo fm j k).length ≤ 5 := by
  unfold restTo
  refine Nat.le_trans (List.length_filter_le _ _) (Nat.le_trans (List.length_take_le' _ _) (setB_len fm 5))
theorem restTo_all {fm j : Nat} (h : fm < 32) (hj : j ∈ setB fm 5) : restTo fm j (setB fm 5).length = setB (clearB fm j) 5 := by
  unfold restTo
  rw [List.take_length]
  exact ((clear_bits fm h j hj).2.1).symm
end Go.Proofs.Ytgonldkgghikiaa
namespace Go.Proofs.Ytgonldkgghikiaa
set_option linter.unusedSimpArgs false
set_option linter.unusedVariables false
set_option linter.unnecessarySimpa false
set_option maxRecDepth 200000
open Go.ChangeShapes Go.WideShapes Go.ChangeAt Go.RowKit

theorem task_two {a1 a2 d1 d2 : Option Addr} {n1 n2 m1 m2 c1 c2 e1 e2 : Nat} {x y : Int} : ∀ u ∈ [Value.slice a1 n1 c1, .slice d1 m1 e1, .int .i64 x, .slice a2 n2 c2, .slice d2 m2 e2, .int .i64 y], u.oneCell' = true := by
  intro u hu
  simp at hu
  rcases hu with rfl | rfl | rfl | rfl | rfl | rfl <;> rfl
set_option maxHeartbeats 32000000 in
theorem spec_l14Gray_any (n : Nat) (v : Value) (masks : List Nat) (w : World) (h : RdI w v (ints masks)) (hs : Sm masks) (n1 : 1 ≤ n) (n5 : n ≤ 5) :
    Calls Try.prog 21 #[.int .i64 (n : Int), v] w fun e w' => ∃ u, e = .returned (.agg #[.int .i64 (n : Int), u]) ∧ OwnE w' w.heap.size 62 u E3.cs 3 (gAll n masks) ∧ Below w.heap.size w w' := by
  obtain ⟨i0, hi, hz0, hz1, hz2⟩ := info_parts info_Gate
  obtain ⟨k0, hkk, hx0, hx1, hx2⟩ := info_parts info_l14Task
  obtain ⟨j0, hjj, hy0, hy1, hy2⟩ := info_parts info_int
  have H := Lib.hid h
  have HS := Lib.hid hs
  have hml := hs.1
  obtain ⟨A, c, rfl, _⟩ := h.form
  rw [ints_len] at *
  clear h hs
  have BR0 := Lib.hid ((Bx.make (w := w) (B := w.heap.size) (R := []) [.int .i64 0, .slice none 0 0] 25 (fun r hr => by cases hr) (Nat.le_refl _)).call (show Below (w.alloc (.cells #[.int .i64 0, .slice none 0 0] 25)).heap.size (w.alloc (.cells #[.int .i64 0, .slice none 0 0] 25)) ((w.alloc (.cells #[.int .i64 0, .slice none 0 0] 25)).alloc (.cells #[.int .i64 (n : Int), .slice none 0 0] 25)) from (by repeat (first | exact Below.refl _ _ | assumption | refine Below.drew ?_ | refine below_drewN ?_ _ | refine Below.alloc ?_ (by first | omega | (simp <;> omega)) _ | refine Below.setCell ?_ (by first | omega | (simp <;> omega)) _ | refine Below.trans ?_ (Below.mono (by assumption) (by first | omega | (simp <;> omega)))))))
  have BC0 := Lib.hid (show Bx ((w.alloc (.cells #[.int .i64 0, .slice none 0 0] 25)).alloc (.cells #[.int .i64 (n : Int), .slice none 0 0] 25)) w.heap.size [] (w.heap.size + 1) [.int .i64 (n : Int), .slice none 0 0] from by
    have h9 := Bx.make (w := w.alloc (.cells #[.int .i64 0, .slice none 0 0] 25)) (B := w.heap.size) (R := []) [.int .i64 (n : Int), .slice none 0 0] 25 (fun r hr => by cases hr) (by simp)
    rwa [show (w.alloc (.cells #[.int .i64 0, .slice none 0 0] 25)).heap.size = w.heap.size + 1 from by simp] at h9)
  have HW := Lib.hid (show Below w.heap.size w ((w.alloc (.cells #[.int .i64 0, .slice none 0 0] 25)).alloc (.cells #[.int .i64 (n : Int), .slice none 0 0] 25)) from (by repeat (first | exact Below.refl _ _ | assumption | refine Below.drew ?_ | refine below_drewN ?_ _ | refine Below.alloc ?_ (by first | omega | (simp <;> omega)) _ | refine Below.setCell ?_ (by first | omega | (simp <;> omega)) _ | refine Below.trans ?_ (Below.mono (by assumption) (by first | omega | (simp <;> omega))))))
  have hsz : w.heap.size + 2 ≤ ((w.alloc (.cells #[.int .i64 0, .slice none 0 0] 25)).alloc (.cells #[.int .i64 (n : Int), .slice none 0 0] 25)).heap.size := by simp
  obtain ⟨B, hB⟩ : ∃ B, B = w.heap.size := ⟨_, rfl⟩
  go_enter Try.func21, Try.ntmps21
  go_wp2_with fail
  generalize ((w.alloc (.cells #[.int .i64 0, .slice none 0 0] 25)).alloc (.cells #[.int .i64 (n : Int), .slice none 0 0] 25)) = W at *
  go_loopw [6, 7] (fun so i wr => ∃ (k : Nat) (u : Value), u = so ∧ k ≤ n ∧ i = .int .i64 k ∧ Hid (Row.own wr W.heap.size (nrow u (List.range k))) ∧ Hid (Below W.heap.size W wr) ∧ W.heap.size ≤ wr.heap.size) (fun _ i _ => n - (intOf i).toNat)
  case atStart => exact ⟨0, _, rfl, Nat.zero_le _, rfl, (show World.ownsRow _ _ _ _ _ _ _ from World.ownsRow_nil _ _ _ _), (show Below _ _ _ from Below.refl _ _), Nat.le_refl _⟩
  case round =>
    obtain ⟨k, u, rfl, hk, rfl, hO, hBw, hsw⟩ := hrel
    by_cases hlt : k < n
    · have i1 : (k : Int) < (n : Int) := by omega
      have HN := Lib.hid (List.range_succ (n := k))
      have hLl : (List.range k).length = k := List.length_range
      obtain ⟨L, hL⟩ : ∃ L, L = List.range k := ⟨_, rfl⟩
      rw [← hL] at hO HN hLl
      clear hL
      have OX := Lib.hid (show (wr.alloc (.cells #[.int .i64 (k : Int)] 3)).ownsRow W.heap.size 3 1 u L.length ((ints L).map (Value.int .i64)) from World.ownsRow.alloc (show wr.ownsRow W.heap.size 3 1 u L.length ((ints L).map (Value.int .i64)) from hO.out) _)
      have hbX := Lib.hid (Below.alloc hBw.out hsw (.cells #[.int .i64 (k : Int)] 3))
      go_wp2_with (at_builtin; go_must (refine wpList_append_any _ rfl _ _ 22 rfl W.heap.size 3 j0 (.int .i64 0) 1 8 Try.underlying22 hjj hy0 hy1 hy2 rfl (by decide) _ L.length _ rfl OX.out (wr.heap.size + 1) _ 1 1 [.int .i64 (k : Int)] rfl (one_reads wr k) (one_one _) (by unfold maxLen; omega) (by omega) (by simp; omega) ?_; intro v3 w4 hown3 hg3 hat3; have S4 := Lib.hid (show Row.own w4 W.heap.size (nrow v3 (List.range (k + 1))) from (by rw [HN.out]; exact nrow_app hown3)); have B4 := Lib.hid (grown_below hbX.out OX.out hg3 (Nat.le_refl _) (by simp; omega)); have z4 := hg3.size; (simp at z4); clear hown3 hg3 hat3))
      go_roundw
      case rel => exact ⟨k + 1, _, rfl, by omega, by go_num, S4, B4, by omega⟩
      case measure => simp [intOf]; omega
    · have ek : k = n := by omega
      subst ek
      have i1 : ¬ (k : Int) < (k : Int) := by omega
      have BR1 := Lib.hid (BR0.out.call hBw.out)
      have BC1 := Lib.hid (BC0.out.call hBw.out)
      have HW1 := Lib.hid (Below.trans HW.out (hBw.out.mono (by omega)))
      obtain ⟨a6, c6, rfl⟩ : ∃ a c, u = .slice a k c := by have h9 := own_form hO.out; unfold nrow at h9; dsimp only at h9; rwa [List.length_range] at h9
      go_wp2_with fail
      refine (spec_l1Own_any _ (ints masks) _ (Rd.below H.out HW1.out rfl) (by rw [ints_len]; omega)).mono ?_; rintro e w2 ⟨v2, rfl, ho2, hb2⟩
      obtain ⟨a2, c2, rfl⟩ : ∃ a c, v2 = .slice a masks.length c := by have h9 := ho2.forms; rw [ints_len] at h9; exact h9
      have SM0 := Lib.hid (SMem.start (w0 := w) n5 HS.out (show w.heap.size ≤ wr.heap.size by omega) (own_le (show wr.ownsRow W.heap.size 3 1 _ (List.range k).length _ from hO.out) (by omega)) BR1.out BC1.out (show w2.ownsRow wr.heap.size 3 1 (.slice a2 masks.length c2) masks.length _ from by have h9 := ho2; unfold OwnI at h9; rw [ints_len] at h9; exact h9) hb2 HW1.out (fun e => by have := (World.ownsRow.lt (show wr.ownsRow W.heap.size 3 1 _ (List.range k).length _ from hO.out) _ e).1; omega))
      clear BR0 BC0 HW BR1 BC1 HW1 hO hBw ho2 hb2
      go_wp2_with fail
      generalize (w2.alloc (.cells #[.slice a2 masks.length c2, .slice a6 k c6, .int .i64 (-1)] 58)) = W2 at *
      clear hsz hsw
      have SMX := Lib.hid (show SMem k masks w.heap.size 63 w.heap.size (w.heap.size + 1) w W2 (.slice none 0 0) (.slice (some ⟨w2.heap.size, 0, none⟩) 1 1) [⟨⟨masks, 2 ^ k - 1, -1⟩, .slice a2 masks.length c2, .slice a6 k c6⟩] [] from SM0.out)
      clear SM0
      obtain ⟨bg, hbg⟩ : ∃ b, b = w2.heap.size := ⟨_, rfl⟩
      rw [← hbg] at SMX ⊢
      clear hbg
      go_loopg [8] 63 (fun f ss wr => ∃ (vO vS : Value) (T : List TM) (O : List E3), vS = ss ∧ Hid (SMem k masks w.heap.size f w.heap.size (w.heap.size + 1) w wr vO vS T O))
      case atStart => exact ⟨_, _, _, _, rfl, SMX⟩
      case round =>
        clear SMX
        obtain ⟨vO, vS, T, O, rfl, hM⟩ := hrel
        rcases List.eq_nil_or_concat T with rfl | ⟨T', y, rfl⟩
        · have HR := Lib.hid (show O = gAll k masks from (gLoop_nil k gk O).symm.trans hM.out.run)
          obtain ⟨aS, cS, rfl⟩ : ∃ a c, vS = .slice a 0 c := own_form (show Row.own wr w.heap.size (trow 58 vS []) from hM.out.fam.fam.own _ (by simp [srows]))
          have OV := Lib.hid (show Row.own wr w.heap.size (orow vO O) from hM.out.fam.fam.own (orow vO O) (by simp [srows]))
          obtain ⟨aO, cO, rfl⟩ : ∃ a c, vO = .slice a O.length c := own_form OV.out
          have q0 := hM.out.bxC.cs 0 _ rfl; have q1 := hM.out.bxC.cs 1 _ rfl
          have r0 := hM.out.bxR.cs 0 _ rfl; have r1 := hM.out.bxR.cs 1 _ rfl
          have f0 := hM.out.bxR.fz 0 (by simp); have f1 := hM.out.bxR.fz 1 (by simp)
          have HBL := Lib.hid hM.out.bel
          have HOR := Lib.hid (hM.out.bxR.off (orow (.slice aO O.length cO) O) (by simp [srows]))
          clear hM
          have hZ := box_set2 (nb := w.heap.size) (.int .i64 (k : Int)) (.slice aO O.length cO) r0 r1
          have bq := HBL.out
          go_wp2_with fail
          exact bodyPost_ret (v := .agg #[.int .i64 (k : Int), .slice aO O.length cO]) (by simp [results, Try.results21, go_sem, hZ]) rfl ⟨_, rfl, (by rw [← HR.out]; exact row_box (r := orow (.slice aO O.length cO) O) (row_box (r := orow (.slice aO O.length cO) O) OV.out HOR.out) HOR.out), (by repeat (first | exact Below.refl _ _ | assumption | refine Below.drew ?_ | refine below_drewN ?_ _ | refine Below.alloc ?_ (by first | omega | (simp <;> omega)) _ | refine Below.setCell ?_ (by first | omega | (simp <;> omega)) _ | refine Below.trans ?_ (Below.mono (by assumption) (by first | omega | (simp <;> omega)))))⟩
        · rw [List.concat_eq_append] at hM
          have INV0 := hM.out.inv
          rw [stack_rev] at INV0
          obtain ⟨f, rfl⟩ : ∃ f, gk = f + 1 := by
            have h1 := INV0.fuel; rw [wts_cons] at h1; have := wt_pos y.x.fm; exact ⟨gk - 1, by omega⟩
          have RUN0 := hM.out.run
          rw [stack_rev] at RUN0
          have RUN := Lib.hid RUN0; have INV := Lib.hid INV0
          have hTl : T'.length ≤ 63 := by have h1 := INV0.len; have h2 := wts_len (y.x :: (T'.map TM.x).reverse); rw [List.length_cons, List.length_reverse, List.length_map] at h2; omega
          have hOl : O.length ≤ 315 := by have h1 := INV0.len; omega
          have TOK := Lib.hid (INV0.ok y.x (by simp))
          clear RUN0 INV0
          have hST : Row.own wr w.heap.size (trow 58 vS (T' ++ [y])) := hM.out.fam.fam.own _ (by simp [srows])
          obtain ⟨aS, cS, rfl⟩ : ∃ a c, vS = .slice a (T'.length + 1) c := by
            have h9 := own_form hST
            unfold trow at h9
            dsimp only at h9
            rwa [show (T' ++ [y]).length = T'.length + 1 from by simp] at h9
          have hTT : T'.length < (T' ++ [y]).length := by simp
          obtain ⟨gS, rfl, hgS, q0, q1, q2⟩ := trow_cells hST hTT
          have hyT : (T' ++ [y])[T'.length] = y := by simp
          rw [hyT] at q0 q1 q2
          have hcaps : T'.length + 1 ≤ cS ∧ cS ≤ 9223372036854775807 := by
            have h9 := hST
            unfold Row.own trow at h9
            dsimp only at h9
            rw [show (T' ++ [y]).length = T'.length + 1 from by simp] at h9
            exact own_caps h9
          obtain ⟨hcap1, hcap2⟩ := hcaps
          have hcap3 : T'.length ≤ cS := by omega
          have S0 := Lib.hid (SIw.start (by omega) hM.out)
          have hneF := hM.out.offF
          obtain ⟨⟨vs, fm, tg⟩, vv, md⟩ := y
          dsimp only at q0 q1 q2
          obtain ⟨aV, cV, rfl⟩ : ∃ a c, vv = .slice a vs.length c := own_form (show Row.own _ w.heap.size (nrow vv vs) from S0.out.fam.fam.head)
          obtain ⟨aF, cF, rfl⟩ : ∃ a c, md = .slice a (setB fm 5).length c := own_form (show Row.own _ w.heap.size (nrow md (setB fm 5)) from S0.out.fam.own (frow ⟨⟨vs, fm, tg⟩, .slice aV vs.length cV, md⟩) (by simp))
          have hvl : vs.length ≤ 31 := TOK.out.sm.1
          have hfl := setB_len fm 5
          have fm2 := TOK.out.fm
          have tg1 := TOK.out.tg
          dsimp only at fm2 tg1
          have hbw := hM.out.BW
          clear hyT hTT hST hneF hM
          have P0 := Lib.hid (GIp.start (y := ⟨⟨vs, fm, tg⟩, .slice aV vs.length cV, .slice aF (setB fm 5).length cF⟩) rfl INV.out)
          obtain ⟨nF, hnF⟩ : ∃ m, m = (setB fm 5).length := ⟨_, rfl⟩
          rw [← hnF] at S0 P0 hfl q1
          have HNF := Lib.hid hnF
          clear hnF
          by_cases hv0 : vs = []
          · subst hv0
            go_wp2_with fail
            go_roundg f
            case measure => omega
            case rel => exact ⟨_, _, T', O, rfl, (show SMem _ _ _ _ _ _ _ _ _ _ _ _ from S0.out.mem (gInv_empty INV.out) ((gLoop_empty (n := k) (f := f) (x := ⟨[], fm, tg⟩) (r := (T'.map TM.x).reverse) (out := O) rfl).symm.trans RUN.out))⟩
          · have hvp : vs.length ≠ 0 := fun e => hv0 (List.eq_nil_of_length_eq_zero e)
            have HV0 := Lib.hid hv0
            obtain ⟨bx, hbx⟩ : ∃ b, b = wr.heap.size := ⟨_, rfl⟩
            rw [← hbx] at S0
            clear hv0
            go_wp2_with fail
            rw [← hbx]
            generalize (wr.alloc (.cells #[.slice aV vs.length cV, .slice aF nF cF, .int .i64 tg] 58)) = W at *
            clear q0 q1 q2 hgS
            clear hbx
            have hrl : T'.length = (T'.map TM.x).reverse.length := by simp
            obtain ⟨r, hr⟩ : ∃ r, r = (T'.map TM.x).reverse := ⟨_, rfl⟩
            rw [← hr] at P0 RUN INV hrl
            have HRL := Lib.hid hrl
            clear hr hrl
            have P0' : Hid (tg < 0 → (0 : Nat) = 0) := (show tg < 0 → (0 : Nat) = 0 from fun _ => rfl)
            have P0m : Hid ((.slice aF nF cF : Value) = .slice aF nF cF) := (show (.slice aF nF cF : Value) = .slice aF nF cF from rfl)
            go_loopw [10] (fun i wr => ∃ (q : Nat) (vP : Value) (T2 : List TM) (y2 : TM) (O2 : List E3), q ≤ k ∧ i = .int .i64 q ∧ Hid (SIw k w.heap.size w.heap.size (w.heap.size + 1) bx w wr vP (.slice (some ⟨gS, 0, none⟩) T'.length cS) T2 y2 O2) ∧ Hid (GIp k ⟨vs, fm, tg⟩ r O q (.slice aV vs.length cV) T2 y2 O2) ∧ Hid (y2.md = .slice aF nF cF) ∧ Hid (tg < 0 → q = 0)) (fun i _ => k - (intOf i).toNat)
            case atStart => exact ⟨0, _, _, _, _, by omega, rfl, S0, P0, P0m, P0'⟩
            case round =>
              clear S0 P0 P0' P0m
              obtain ⟨q, vP, T2, y2, O2, hq, rfl, hG, hP, hmd, hT0⟩ := hrel
              have HRT := Lib.hid hP.out.Tlen
              have HE1 := Lib.hid hP.out.fm; have HE2 := Lib.hid hP.out.tg; have HE3 := Lib.hid hP.out.vv
              obtain ⟨⟨vs2, fm2', tg2⟩, vv2, md2⟩ := y2
              obtain rfl : fm2' = fm := HE1.out
              obtain rfl : tg2 = tg := HE2.out
              obtain rfl : vv2 = .slice aV vs.length cV := HE3.out
              obtain rfl : md2 = .slice aF nF cF := hmd.out
              clear HE1 HE2 HE3 hmd
              have c0 := hG.out.bxT.cs 0 _ rfl; have c1 := hG.out.bxT.cs 1 _ rfl; have c2 := hG.out.bxT.cs 2 _ rfl
              have d0 := hG.out.bxC.cs 0 _ rfl; have d1 := hG.out.bxC.cs 1 _ rfl
              have e1 := hG.out.bxC.fz 1 (by simp)
              dsimp only at c0 c1 c2
              have HRD := Lib.hid (nrow_rd (show Row.own wr w.heap.size (nrow (.slice aV vs.length cV) vs2) from hG.out.fam.fam.head))
              have HVL2 := Lib.hid (show vs2.length = vs.length from hP.out.ok.ne)
              have HSM2 := Lib.hid hP.out.ok.sm
              have HBW2 := Lib.hid hG.out.BW
              by_cases hin : q < k ∧ 0 ≤ tg2
              · skip
                obtain ⟨hkn, ht0⟩ := hin
                have i1 : (q : Int) < (k : Int) := by omega
                obtain ⟨tn, rfl⟩ : ∃ tn : Nat, tg2 = (tn : Int) := ⟨tg2.toNat, by omega⟩
                have htn : tn < k := by omega
                have HT5 := Lib.hid (show (0 : Int) ≤ (tn : Int) ∧ (tn : Int) < (k : Int) from ⟨by omega, by omega⟩)
                clear tg1
                by_cases hkt : q = tn
                · subst hkt
                  have HN := Lib.hid (hP.out.no n5 HT5.out hkn (show gHit (q : Int) vs2 q = false from by unfold gHit; simp))
                  go_wp2_with fail
                  go_roundw
                  case rel => exact ⟨q + 1, _, _, _, _, by omega, by go_num, hG, HN, (show (Value.slice aF nF cF) = _ from rfl), (show _ → _ from fun h9 => absurd h9 (by omega))⟩
                  case measure => simp [intOf]; omega
                · have hkt2 : ¬ (q : Int) = (tn : Int) := by omega
                  have hkt3 : ((q : Int) != (tn : Int)) = true := by simp; omega
                  have hkt4 : ((q : Int) == (tn : Int)) = false := by simp; omega
                  clear hkt
                  have hP1 := hP.out.ok.len
                  have HPn := Lib.hid (fun h9 => hP.out.no n5 HT5.out hkn h9)
                  have HPy := Lib.hid (fun h9 => hP.out.yes n5 HT5.out hkn h9)
                  dsimp only at hP1
                  have HGH := Lib.hid (show gHit (tn : Int) vs2 q = decide ((gSet vs2 q false).length = 0) from by unfold gHit; rw [decide_eq_false hkt2, ← inAll_set]; rfl)
                  have HVO := Lib.hid (show Row.own wr w.heap.size (orow vP O2) from hG.out.fam.fam.own _ (by simp [srows]))
                  obtain ⟨aP, cP, rfl⟩ : ∃ a c, vP = .slice a O2.length c := own_form HVO.out
                  have hP0 := Lib.hid hP.out
                  clear hP HVO
                  go_wp2_with fail
                  refine (spec_l14Set_0 q _ vs2 _ HRD.out HSM2.out (by omega)).mono ?_; rintro e w2 ⟨u, rfl, hou, hb2⟩
                  obtain ⟨au, cu, rfl⟩ : ∃ a c, u = .slice a (gSet vs2 q false).length c := own_form hou
                  replace hG := Lib.hid (hG.out.call hb2)
                  clear c0 c1 c2 d0 d1 e1 hb2 hou
                  have c0 := hG.out.bxT.cs 0 _ rfl; have c1 := hG.out.bxT.cs 1 _ rfl; have c2 := hG.out.bxT.cs 2 _ rfl
                  have d0 := hG.out.bxC.cs 0 _ rfl; have d1 := hG.out.bxC.cs 1 _ rfl
                  have e1 := hG.out.bxC.fz 1 (by simp)
                  dsimp only at c0 c1 c2
                  have hgl := gSet_len vs2 q false
                  rw [HVL2.out] at hgl
                  obtain ⟨ng, hng⟩ : ∃ m, m = (gSet vs2 q false).length := ⟨_, rfl⟩
                  rw [← hng] at HGH hgl ⊢
                  clear hng
                  by_cases hz : ng = 0
                  · subst hz
                    have HN := Lib.hid (HPy.out (by rw [HGH.out]; rfl))
                    clear HPn HPy
                    have GX := Lib.hid (hG.out.call (show Below w2.heap.size w2 (w2.alloc (.cells #[.int .i64 9, .int .i64 (q : Int), .int .i64 (tn : Int)] 62)) from (by repeat (first | exact Below.refl _ _ | assumption | refine Below.drew ?_ | refine below_drewN ?_ _ | refine Below.alloc ?_ (by first | omega | (simp <;> omega)) _ | refine Below.setCell ?_ (by first | omega | (simp <;> omega)) _ | refine Below.trans ?_ (Below.mono (by assumption) (by first | omega | (simp <;> omega)))))))
                    have OX := Lib.hid (show (w2.alloc (.cells #[.int .i64 9, .int .i64 (q : Int), .int .i64 (tn : Int)] 62)).ownsRow w.heap.size 62 3 (.slice aP O2.length cP) O2.length (O2.flatMap E3.cs) from GX.out.fam.fam.own (orow (.slice aP O2.length cP) O2) (by simp [srows]))
                    have HBX := Lib.hid GX.out.BW
                    go_wp2_with (at_builtin; go_must (refine wpList_append_any _ rfl _ _ 23 rfl w.heap.size 62 i0 (.agg #[.int .i64 0, .int .i64 0, .int .i64 0]) 3 24 Try.underlying23 hi hz0 hz1 hz2 rfl (by decide) _ O2.length _ rfl OX.out (w2.heap.size + 1) _ 1 1 (E3.cs ⟨9, (q : Int), (tn : Int)⟩) rfl (by have := reads_news w2 (E3.cs ⟨9, (q : Int), (tn : Int)⟩) 62 3 1 rfl; simpa [E3.cs] using this) (E3.one _) (by unfold maxLen; omega) (by omega) HBX.out ?_; intro v3 w4 hown3 hg3 hat3; obtain ⟨a3, c3, rfl⟩ := own_form hown3; clear c0 c1 c2 d0 d1 e1; have hoff := GX.out.bxC.off (orow (.slice aP O2.length cP) O2) (by simp [srows]); have d1 := cell_grown hg3 (GX.out.bxC.cs 1 _ rfl) hoff; have e1 := frz_grown hg3 GX.out.bxC.lt (GX.out.bxC.fz 1 (by simp)) hoff; replace GX := Lib.hid (GX.out.app hg3 hown3 hat3); clear hown3 hg3 hat3 hoff; have c0 := GX.out.bxT.cs 0 _ rfl; have c2 := GX.out.bxT.cs 2 _ rfl; dsimp only at c0 c2))
                    refine (spec_l14Add_any w.heap.size q tn _ vs2 _ GX.out.fam.fam.head HSM2.out (by omega) (by omega)).mono ?_; rintro e w5 ⟨rfl, ho5, hg5⟩
                    replace GX := Lib.hid (GX.out.addY ho5 hg5)
                    clear c0 c2 ho5 hg5 d1 e1 OX HBX
                    have HTL2 := Lib.hid (HRT.out.trans HRL.out.symm)
                    have G0 := Lib.hid (show SIw k w.heap.size w.heap.size (w.heap.size + 1) bx w w5 (.slice a3 (O2.length + 1) c3) (.slice (some ⟨gS, 0, none⟩) T'.length cS) (invTo q tn T2 0) (TM.add q tn ⟨⟨vs2, fm2', (tn : Int)⟩, .slice aV vs.length cV, .slice aF nF cF⟩) (O2 ++ [⟨9, (q : Int), (tn : Int)⟩]) from by rw [invTo_zero]; exact GX.out)
                    have HSMS := Lib.hid hP0.out.sms
                    go_wp2_with fail
                    go_loopw [95] (fun i wr => ∃ m : Nat, m ≤ T2.length ∧ i = .int .i64 m ∧ Hid (SIw k w.heap.size w.heap.size (w.heap.size + 1) bx w wr (.slice a3 (O2.length + 1) c3) (.slice (some ⟨gS, 0, none⟩) T'.length cS) (invTo q tn T2 m) (TM.add q tn ⟨⟨vs2, fm2', (tn : Int)⟩, .slice aV vs.length cV, .slice aF nF cF⟩) (O2 ++ [⟨9, (q : Int), (tn : Int)⟩]))) (fun i _ => T2.length - (intOf i).toNat)
                    case atStart => exact ⟨0, Nat.zero_le _, rfl, G0⟩
                    case round =>
                      clear G0 GX
                      obtain ⟨m, hm, rfl, hG4⟩ := hrel
                      by_cases hlt : m < T2.length
                      · have i4 : (m : Int) < (T'.length : Int) := by have := HTL2.out; omega
                        obtain ⟨z0, z1, z2, z3, z4⟩ := hG4.out.at4 hlt
                        have z5 : wr.cell? ⟨bx, 2, none⟩ = some (.int .i64 (tn : Int)) := hG4.out.bxT.cs 2 _ rfl
                        have HSZ := Lib.hid (HSMS.out T2[m] (by simp))
                        have HBZ := Lib.hid hG4.out.BW
                        have HADD := Lib.hid (fun w5 w6 (hb : Below wr.heap.size wr w5) ho hg => SIw.addAt hlt (w' := w6) (hG4.out.call hb) ho hg)
                        obtain ⟨z, hz⟩ : ∃ z, z = T2[m] := ⟨_, rfl⟩
                        rw [← hz] at z0 z1 z2 z3 z4 HSZ HADD
                        clear hz hG4
                        obtain ⟨⟨zvs, zfm, ztg⟩, zv, zmd⟩ := z
                        obtain ⟨azv, czv, rfl⟩ : ∃ a c, zv = .slice a zvs.length c := own_form z3
                        obtain ⟨azm, czm, rfl⟩ : ∃ a c, zmd = .slice a (setB zfm 5).length c := own_form (show Row.own _ w.heap.size (nrow zmd (setB zfm 5)) from z4)
                        obtain ⟨nz, hnz⟩ : ∃ m, m = (setB zfm 5).length := ⟨_, rfl⟩
                        rw [← hnz] at z1 HADD
                        clear hnz z4
                        have z3 := Lib.hid z3
                        dsimp only at z0 z1 z2
                        have z6 := bel_cell (show Below wr.heap.size wr (wr.alloc (.cells #[.slice azv zvs.length czv, .slice azm nz czm, .int .i64 ztg] 58)) from (by repeat (first | exact Below.refl _ _ | assumption | refine Below.drew ?_ | refine below_drewN ?_ _ | refine Below.alloc ?_ (by first | omega | (simp <;> omega)) _ | refine Below.setCell ?_ (by first | omega | (simp <;> omega)) _ | refine Below.trans ?_ (Below.mono (by assumption) (by first | omega | (simp <;> omega)))))) z5
                        go_wp2_with fail
                        refine (spec_l14Add_any w.heap.size q tn _ zvs _ (own_below z3.out (show Below wr.heap.size wr (wr.alloc (.cells #[.slice azv zvs.length czv, .slice azm nz czm, .int .i64 ztg] 58)) from (by repeat (first | exact Below.refl _ _ | assumption | refine Below.drew ?_ | refine below_drewN ?_ _ | refine Below.alloc ?_ (by first | omega | (simp <;> omega)) _ | refine Below.setCell ?_ (by first | omega | (simp <;> omega)) _ | refine Below.trans ?_ (Below.mono (by assumption) (by first | omega | (simp <;> omega)))))) rfl) HSZ.out (by omega) (by omega)).mono ?_; rintro e w6 ⟨rfl, ho6, hg6⟩
                        have HZ := Lib.hid (HADD.out _ w6 (by repeat (first | exact Below.refl _ _ | assumption | refine Below.drew ?_ | refine below_drewN ?_ _ | refine Below.alloc ?_ (by first | omega | (simp <;> omega)) _ | refine Below.setCell ?_ (by first | omega | (simp <;> omega)) _ | refine Below.trans ?_ (Below.mono (by assumption) (by first | omega | (simp <;> omega))))) ho6 hg6)
                        clear ho6 hg6
                        go_wp2_with fail
                        go_roundw
                        case rel => exact ⟨m + 1, hlt, by go_num, HZ⟩
                        case measure => simp [intOf]; omega
                      · have HZ := Lib.hid (show SIw k w.heap.size w.heap.size (w.heap.size + 1) bx w wr (.slice a3 (O2.length + 1) c3) (.slice (some ⟨gS, 0, none⟩) T'.length cS) (T2.map (TM.add q tn)) (TM.add q tn ⟨⟨vs2, fm2', (tn : Int)⟩, .slice aV vs.length cV, .slice aF nF cF⟩) (O2 ++ [⟨9, (q : Int), (tn : Int)⟩]) from by rw [← invTo_all (Nat.le_of_not_lt hlt)]; exact hG4.out)
                        have i4 : ¬ (m : Int) < (T'.length : Int) := by have := HTL2.out; omega
                        clear hG4
                        go_wp2_with fail
                        go_roundw
                        case rel => exact ⟨q + 1, _, _, _, _, by omega, by go_num, HZ, HN, (show (Value.slice aF nF cF) = _ from rfl), (show _ → _ from fun h9 => absurd h9 (by omega))⟩
                        case measure => simp [intOf]; omega
                  · have hzp : (0 : Int) < (ng : Int) := by omega
                    have HN := Lib.hid (HPn.out (by rw [HGH.out]; exact decide_eq_false hz))
                    clear HPn HPy
                    go_wp2_with fail
                    go_roundw
                    case rel => exact ⟨q + 1, _, _, _, _, by omega, by go_num, hG, HN, (show (Value.slice aF nF cF) = _ from rfl), (show _ → _ from fun h9 => absurd h9 (by omega))⟩
                    case measure => simp [intOf]; omega
              · have hstop : ((q : Int) < (k : Int) ∧ tg2 < 0) ∨ (¬ (q : Int) < (k : Int) ∧ ¬ tg2 < 0) := by
                  rcases Int.lt_or_le tg2 0 with h1 | h1
                  · exact .inl ⟨by have := hT0.out h1; omega, h1⟩
                  · exact .inr ⟨by omega, by omega⟩
                have HI := Lib.hid (hP.out.done (show (tg2 < 0 ∧ q = 0) ∨ (0 ≤ tg2 ∧ q = k) from by
                  rcases Int.lt_or_le tg2 0 with h1 | h1
                  · exact .inl ⟨h1, hT0.out h1⟩
                  · exact .inr ⟨h1, by omega⟩))
                have HTL2 := Lib.hid (HRT.out.trans HRL.out.symm)
                clear hP hin HRT hT0
                go_upto_region 13 with fail
                go_cut [63] (fun s63 wx => s63 = .bool false ∧ wx = wr)
                case first =>
                  rcases hstop with ⟨i1, i2⟩ | ⟨i1, i2⟩
                  · go_wp2_with fail
                    go_meet
                    exact ⟨by rw [decide_eq_false (by omega)], rfl⟩
                  · go_wp2_with fail
                    go_meet
                    exact ⟨rfl, rfl⟩
                case rest =>
                  obtain ⟨rfl, rfl⟩ := hcut
                  clear hstop
                  go_wp2_with fail
                  have G0 := hG
                  go_loopw [13, 14, 109] (fun sb sm i wx => ∃ m : Nat, m ≤ nF ∧ sb = .int .i64 (gSp vs2 (setB fm2' 5) m).1 ∧ sm = .int .i64 (gSp vs2 (setB fm2' 5) m).2 ∧ i = .int .i64 m ∧ Hid (SIw k w.heap.size w.heap.size (w.heap.size + 1) bx w wx vP (.slice (some ⟨gS, 0, none⟩) T'.length cS) T2 ⟨⟨vs2, fm2', tg2⟩, .slice aV vs.length cV, .slice aF nF cF⟩ O2)) (fun _ _ i _ => nF - (intOf i).toNat)
                  case atStart => exact ⟨0, Nat.zero_le _, rfl, rfl, rfl, G0⟩
                  case round =>
                    clear G0 hG c0 c1 c2 d0 d1 e1
                    obtain ⟨m, hm, rfl, rfl, rfl, hG⟩ := hrel
                    by_cases hlt : m < nF
                    · skip
                      have i5 : (m : Int) < (nF : Int) := by omega
                      have hml5 : m < (setB fm2' 5).length := by rw [← HNF.out]; exact hlt
                      obtain ⟨gF, rfl, hgF, cj⟩ := frow_at (show Row.own wr w.heap.size (nrow (.slice aF nF cF) (setB fm2' 5)) from hG.out.fam.own (frow ⟨⟨vs2, fm2', tg2⟩, .slice aV vs.length cV, .slice aF nF cF⟩) (by simp)) hml5
                      have HSP := Lib.hid (gSp_succ (vs := vs2) hml5)
                      have hj5 : (setB fm2' 5).getD m 0 < 5 := (setB_mem (y := fm2') (k := 5) (by rw [show (setB fm2' 5).getD m 0 = (setB fm2' 5)[m] from by simp [List.getD, hml5]]; exact List.getElem_mem hml5)).1
                      obtain ⟨j, hj⟩ : ∃ j, j = (setB fm2' 5).getD m 0 := ⟨_, rfl⟩
                      rw [← hj] at cj HSP hj5
                      clear hj hml5
                      obtain ⟨sp, hsp⟩ : ∃ s, s = gSp vs2 (setB fm2' 5) m := ⟨_, rfl⟩
                      rw [← hsp] at HSP ⊢
                      clear hsp
                      obtain ⟨sb, sm⟩ := sp
                      dsimp only
                      have c0 := hG.out.bxT.cs 0 _ rfl
                      dsimp only at c0
                      replace HRD := Lib.hid (nrow_rd (show Row.own wr w.heap.size (nrow (.slice aV vs.length cV) vs2) from hG.out.fam.fam.head))
                      go_upto_region 27 with fail
                      replace hG := Lib.hid (hG.out.call (show Below wr.heap.size wr wr.drew from (by repeat (first | exact Below.refl _ _ | assumption | refine Below.drew ?_ | refine below_drewN ?_ _ | refine Below.alloc ?_ (by first | omega | (simp <;> omega)) _ | refine Below.setCell ?_ (by first | omega | (simp <;> omega)) _ | refine Below.trans ?_ (Below.mono (by assumption) (by first | omega | (simp <;> omega)))))))
                      replace HRD := Lib.hid (Rd.below HRD.out (show Below wr.heap.size wr wr.drew from (by repeat (first | exact Below.refl _ _ | assumption | refine Below.drew ?_ | refine below_drewN ?_ _ | refine Below.alloc ?_ (by first | omega | (simp <;> omega)) _ | refine Below.setCell ?_ (by first | omega | (simp <;> omega)) _ | refine Below.trans ?_ (Below.mono (by assumption) (by first | omega | (simp <;> omega)))))) rfl)
                      replace c0 := cell_drew c0
                      obtain ⟨n0, hn0⟩ : ∃ n, n = (gSet vs2 j false).length := ⟨_, rfl⟩
                      obtain ⟨n1x, hn1⟩ : ∃ n, n = (gSet vs2 j true).length := ⟨_, rfl⟩
                      have HS0 := Lib.hid (fun w9 (h9 : RdI w9 (.slice aV vs.length cV) (ints vs2)) => (spec_l14Set_0 j _ vs2 w9 h9 HSM2.out hj5).mono (fun e w2 h8 => (show ∃ a c, e = .returned (.slice a n0 c) ∧ Below w9.heap.size w9 w2 from by
                        obtain ⟨u, rfl, hou, hbb⟩ := h8
                        obtain ⟨a0, c0x, rfl⟩ : ∃ a c, u = .slice a (gSet vs2 j false).length c := own_form hou
                        exact ⟨a0, c0x, by rw [hn0], hbb⟩)))
                      have HS1 := Lib.hid (fun w9 (h9 : RdI w9 (.slice aV vs.length cV) (ints vs2)) => (spec_l14Set_1 j _ vs2 w9 h9 HSM2.out hj5).mono (fun e w2 h8 => (show ∃ a c, e = .returned (.slice a n1x c) ∧ Below w9.heap.size w9 w2 from by
                        obtain ⟨u, rfl, hou, hbb⟩ := h8
                        obtain ⟨a0, c0x, rfl⟩ : ∃ a c, u = .slice a (gSet vs2 j true).length c := own_form hou
                        exact ⟨a0, c0x, by rw [hn1], hbb⟩)))
                      have HGM := Lib.hid (show gMost vs2 j = max n1x n0 from by rw [hn0, hn1]; rfl)
                      clear hn0 hn1
                      refine AnyB.begin (S := (fun w' => w'.cell? ⟨bx, 0, none⟩ = some (.slice aV vs.length cV))) [] (by kernel_rfl) ?_ (fun hHeld0 => ?_)
                      · ((try dsimp only); (exact c0))
                      refine AnyB.takeQ (i := 0) (oi := _) (v := ?_) (by simp only [List.getElem?_toArray, List.getElem?_cons_zero, List.getElem?_cons_succ]; rfl) (by kernel_rfl) (by kernel_rfl) (by kernel_rfl) (by intro _ _ _ h; exact h) (Or.inl ⟨by rfl, ?_⟩) ?_
                      rotate_left
                      · (intro w hSw; (try dsimp only at hSw); go_simp; (try (with_reducible rfl)))
                      try simp only [Act.put, List.setIfInBounds_toArray, List.set_cons_zero, List.set_cons_succ]
                      refine AnyB.take (i := 1) (oi := _) (v := ?_) (by simp only [List.getElem?_toArray, List.getElem?_cons_zero, List.getElem?_cons_succ]; rfl) (by kernel_rfl) (by kernel_rfl) (by kernel_rfl) (by kernel_rfl) (by kernel_rfl) (by intro _ _ _ h; exact h) (Or.inl ⟨by rfl, ?_⟩) (by assumption) ?_
                      rotate_left
                      · (intro w hSw; (try dsimp only at hSw); go_simp; (try (with_reducible rfl)))
                      try simp only [Act.put, List.setIfInBounds_toArray, List.set_cons_zero, List.set_cons_succ]
                      refine AnyB.takeQ (i := 2) (oi := _) (v := ?_) (by simp only [List.getElem?_toArray, List.getElem?_cons_zero, List.getElem?_cons_succ]; rfl) (by kernel_rfl) (by kernel_rfl) (by kernel_rfl) (by intro _ _ _ h; exact h) (Or.inl ⟨by rfl, ?_⟩) ?_
                      rotate_left
                      · (intro w hSw; (try dsimp only at hSw); go_simp; (try (with_reducible rfl)))
                      try simp only [Act.put, List.setIfInBounds_toArray, List.set_cons_zero, List.set_cons_succ]
                      refine AnyB.takeQ (i := 5) (oi := _) (v := ?_) (by simp only [List.getElem?_toArray, List.getElem?_cons_zero, List.getElem?_cons_succ]; rfl) (by kernel_rfl) (by kernel_rfl) (by kernel_rfl) (by intro _ _ _ h; exact h) (Or.inl ⟨by rfl, ?_⟩) ?_
                      rotate_left
                      · (intro w hSw; (try dsimp only at hSw); go_simp; (try (with_reducible rfl)))
                      try simp only [Act.put, List.setIfInBounds_toArray, List.set_cons_zero, List.set_cons_succ]
                      refine AnyB.take (i := 6) (oi := _) (v := ?_) (by simp only [List.getElem?_toArray, List.getElem?_cons_zero, List.getElem?_cons_succ]; rfl) (by kernel_rfl) (by kernel_rfl) (by kernel_rfl) (by kernel_rfl) (by kernel_rfl) (by intro _ _ _ h; exact h) (Or.inl ⟨by rfl, ?_⟩) (by assumption) ?_
                      rotate_left
                      · (intro w hSw; (try dsimp only at hSw); go_simp; (try (with_reducible rfl)))
                      try simp only [Act.put, List.setIfInBounds_toArray, List.set_cons_zero, List.set_cons_succ]
                      refine AnyB.takeQ (i := 7) (oi := _) (v := ?_) (by simp only [List.getElem?_toArray, List.getElem?_cons_zero, List.getElem?_cons_succ]; rfl) (by kernel_rfl) (by kernel_rfl) (by kernel_rfl) (by intro _ _ _ h; exact h) (Or.inl ⟨by rfl, ?_⟩) ?_
                      rotate_left
                      · (intro w hSw; (try dsimp only at hSw); go_simp; (try (with_reducible rfl)))
                      try simp only [Act.put, List.setIfInBounds_toArray, List.set_cons_zero, List.set_cons_succ]
                      refine AnyB.each (rs := [3]) (by kernel_rfl) (by simp) ?_
                      refine EachB.cons rfl (fun K hK hB => ?_) ?_
                      · skip
                        (go_simp; go_at_call 41; refine (HS0.out _ HRD.out).mono ?_; rintro e w2 ⟨a0, c0x, rfl, hbb⟩; replace c0 := bel_cell hbb c0; replace HRD := Lib.hid (Rd.below HRD.out hbb rfl); replace hG := Lib.hid (hG.out.call hbb); clear hbb; dsimp only)
                        refine hK.out _ _ ?_ (fun hHeld1 => ?_)
                        · ((try dsimp only); (exact c0))
                        clear hB hK K hHeld0
                        refine AnyB.takeQ (i := 4) (oi := _) (v := ?_) (by simp only [List.getElem?_toArray, List.getElem?_cons_zero, List.getElem?_cons_succ]; rfl) (by kernel_rfl) (by kernel_rfl) (by kernel_rfl) (by intro _ _ _ h; exact h) (Or.inl ⟨by rfl, ?_⟩) ?_
                        rotate_left
                        · (intro w hSw; (try dsimp only at hSw); go_simp; (try (with_reducible rfl)))
                        try simp only [Act.put, List.setIfInBounds_toArray, List.set_cons_zero, List.set_cons_succ]
                        refine AnyB.each (rs := [8]) (by kernel_rfl) (by simp) ?_
                        refine EachB.cons rfl (fun K hK hB => ?_) ?_
                        · skip
                          (go_simp; go_at_call 41; refine (HS1.out _ HRD.out).mono ?_; rintro e w3 ⟨a1, c1x, rfl, hbb⟩; replace c0 := bel_cell hbb c0; replace HRD := Lib.hid (Rd.below HRD.out hbb rfl); replace hG := Lib.hid (hG.out.call hbb); clear hbb; dsimp only)
                          refine hK.out _ _ ?_ (fun hHeld2 => ?_)
                          · ((try dsimp only); (exact c0))
                          clear hB hK K hHeld1
                          refine AnyB.takeQ (i := 9) (oi := _) (v := ?_) (by simp only [List.getElem?_toArray, List.getElem?_cons_zero, List.getElem?_cons_succ]; rfl) (by kernel_rfl) (by kernel_rfl) (by kernel_rfl) (by intro _ _ _ h; exact h) (Or.inl ⟨by rfl, ?_⟩) ?_
                          rotate_left
                          · (intro w hSw; (try dsimp only at hSw); go_simp; (try (with_reducible rfl)))
                          try simp only [Act.put, List.setIfInBounds_toArray, List.set_cons_zero, List.set_cons_succ]
                          refine AnyB.each (rs := [10]) (by kernel_rfl) (by simp) ?_
                          refine EachB.cons rfl (fun K hK hB => ?_) ?_
                          · skip
                            (go_simp; go_at_call 43; refine (spec_l1Most_any n0 n1x _).mono ?_; rintro e w4 ⟨rfl, rfl⟩; dsimp only)
                            refine hK.out _ _ ?_ (fun hHeld3 => ?_)
                            · ((try dsimp only); (exact c0))
                            clear hB hK K hHeld2
                            refine AnyB.takeQ (i := 11) (oi := _) (v := ?_) (by simp only [List.getElem?_toArray, List.getElem?_cons_zero, List.getElem?_cons_succ]; rfl) (by kernel_rfl) (by kernel_rfl) (by kernel_rfl) (by intro _ _ _ h; exact h) (Or.inl ⟨by rfl, ?_⟩) ?_
                            rotate_left
                            · (intro w hSw; (try dsimp only at hSw); go_simp; (try (with_reducible rfl)))
                            try simp only [Act.put, List.setIfInBounds_toArray, List.set_cons_zero, List.set_cons_succ]
                            refine AnyB.none (by kernel_rfl) ?_ _
                            by_cases hgt : sm < ((max n0 n1x : Nat) : Int)
                            · have HN := Lib.hid (show gSp vs2 (setB fm2' 5) (m + 1) = ((j : Int), ((max n0 n1x : Nat) : Int)) from by rw [HSP.out]; unfold gB; rw [HGM.out, Nat.max_comm, if_pos hgt])
                              go_wp2_with fail
                              go_roundw
                              case rel => exact ⟨m + 1, by omega, by rw [HN.out], by rw [HN.out], by go_num, hG⟩
                              case measure => simp [intOf]; omega
                            · have HN := Lib.hid (show gSp vs2 (setB fm2' 5) (m + 1) = (sb, sm) from by rw [HSP.out]; unfold gB; rw [HGM.out, Nat.max_comm, if_neg hgt])
                              go_wp2_with fail
                              go_roundw
                              case rel => exact ⟨m + 1, by omega, by rw [HN.out], by rw [HN.out], by go_num, hG⟩
                              case measure => simp [intOf]; omega
                          exact EachB.nil
                        exact EachB.nil
                      exact EachB.nil
                    · obtain rfl : m = nF := by omega
                      have hv2 : vs2 ≠ [] := fun e => hvp (by rw [← HVL2.out, e]; rfl)
                      have hbest := gSp_best hv2 fm2'
                      rw [← HNF.out] at hbest
                      rw [hbest]
                      clear hbest hv2 hlt hm
                      generalize (gSp vs2 (setB fm2' 5) m).2 = mst
                      have i5 : ¬ (m : Int) < (m : Int) := by omega
                      rcases gBest_mem vs2 fm2' with hbm | ⟨j, hj, hbm⟩
                      · have GB := Lib.hid hbm
                        rw [hbm]
                        clear hbm
                        go_wp2_with fail
                        go_roundg f
                        case measure => omega
                        case rel => exact ⟨_, _, T2, O2, rfl, (show SMem _ _ _ _ _ _ _ _ _ _ _ _ from SIw.stop n5 INV.out RUN.out HV0.out HI.out (by show gBest vs2 fm2' < 0; rw [GB.out]; omega) hG.out)⟩
                      · have hjn := free_lt fm2 hj
                        have hj5 : j < 5 := (setB_mem hj).1
                        have hf32 : fm2' < 32 := by have := pow5 n5; omega
                        have hra := Lib.hid (restTo_all hf32 hj)
                        generalize wr = W6 at *
                        have HSPL : Hid (∀ (d u1 u2 v3 : Value) (W1 W2 W3 w' : World) (tg : Int), tg = (if tg2 < 0 then (j : Int) else tg2) → Below W6.heap.size W6 W1 → Row.own W1 W6.heap.size (nrow d (setB (clearB fm2' j) 5)) → Below W1.heap.size W1 W2 → Fam W2 W1.heap.size [nrow u2 (gSet vs2 j false), nrow u1 (gSet vs2 j true)] → Below W2.heap.size W2 W3 → W3.grownBy w' (Value.slice (some ⟨gS, 0, none⟩) T'.length cS).ownBlock → w'.ownsRow w.heap.size 58 3 v3 (T'.length + 2) (T2.flatMap TM.cs ++ ((tkS (gSet vs2 j true) (clearB fm2' j) tg u1 d).cs ++ (tkS (gSet vs2 j false) (clearB fm2' j) tg2 u2 d).cs)) → (v3.ownBlock = (Value.slice (some ⟨gS, 0, none⟩) T'.length cS).ownBlock ∨ v3.ownBlock = some W3.heap.size) → SMem k masks w.heap.size f w.heap.size (w.heap.size + 1) w w' vP v3 (T2 ++ [tkS (gSet vs2 j true) (clearB fm2' j) tg u1 d, tkS (gSet vs2 j false) (clearB fm2' j) tg2 u2 d]) O2) := (fun d u1 u2 v3 W1 W2 W3 w' tg h1 h2 h3 h4 h5 h6 h7 h8 h9 => SIw.split n5 INV.out RUN.out HV0.out HI.out hj hjn hbm h1 hG.out h2 h3 h4 h5 h6 h7 (by rw [HTL2.out]; exact h8) h9)
                        rw [hbm]
                        clear hbm hj
                        have c1 := hG.out.bxT.cs 1 _ rfl
                        dsimp only at c1
                        go_wp2_with fail
                        have O6 := Lib.hid (show Row.own W6 W6.heap.size (nrow (.slice none 0 0) (restTo fm2' j 0)) from World.ownsRow_nil _ _ _ _)
                        have HBL0 := Lib.hid (Below.refl W6.heap.size W6)
                        go_loopw [18, 135] (fun sd i wx => ∃ (p : Nat) (d : Value), d = sd ∧ p ≤ m ∧ i = .int .i64 p ∧ Hid (Row.own wx W6.heap.size (nrow d (restTo fm2' j p))) ∧ Hid (Below W6.heap.size W6 wx) ∧ W6.heap.size ≤ wx.heap.size) (fun _ i _ => m - (intOf i).toNat)
                        case atStart => exact ⟨0, _, rfl, Nat.zero_le _, rfl, O6, HBL0, Nat.le_refl _⟩
                        case round =>
                          clear O6 HBL0
                          obtain ⟨p, d, rfl, hp, rfl, hO, hB, hsz⟩ := hrel
                          by_cases hlt : p < m
                          · skip
                            have i6 : (p : Int) < (m : Int) := by omega
                            have hml5 : p < (setB fm2' 5).length := by rw [← HNF.out]; exact hlt
                            obtain ⟨gF, rfl, hgF, cj⟩ := frow_at (show Row.own W6 w.heap.size (nrow (.slice aF m cF) (setB fm2' 5)) from hG.out.fam.own (frow ⟨⟨vs2, fm2', tg2⟩, .slice aV vs.length cV, .slice aF m cF⟩) (by simp)) hml5
                            replace cj := (hB.out.cell hgF).trans cj
                            have hx5 : (setB fm2' 5).getD p 0 < 5 := (setB_mem (y := fm2') (k := 5) (by rw [show (setB fm2' 5).getD p 0 = (setB fm2' 5)[p] from by simp [List.getD, hml5]]; exact List.getElem_mem hml5)).1
                            have HRN := Lib.hid (fun h9 => restTo_no (j := j) hml5 h9)
                            have HRY := Lib.hid (fun h9 => restTo_yes (j := j) hml5 h9)
                            obtain ⟨x, hx⟩ : ∃ x, x = (setB fm2' 5).getD p 0 := ⟨_, rfl⟩
                            rw [← hx] at cj HRN HRY hx5
                            clear hx hml5
                            by_cases hxj : x = j
                            · have i7 : ((x : Int) != (j : Int)) = false := by simp [hxj]
                              have HN := Lib.hid (HRN.out hxj)
                              clear HRN HRY hxj
                              go_wp2_with fail
                              go_roundw
                              case rel => exact ⟨p + 1, d, rfl, by omega, by go_num, (show Row.own _ _ _ from by rw [HN.out]; exact hO.out), hB, hsz⟩
                              case measure => simp [intOf]; omega
                            · have i7 : ((x : Int) != (j : Int)) = true := by simp; omega
                              have HN := Lib.hid (HRY.out hxj)
                              clear HRN HRY hxj
                              have hrl := restTo_len fm2' j p
                              obtain ⟨L, hL⟩ : ∃ L, L = restTo fm2' j p := ⟨_, rfl⟩
                              rw [← hL] at hO HN hrl
                              clear hL
                              have OX := Lib.hid (show (wr.alloc (.cells #[.int .i64 (x : Int)] 3)).ownsRow W6.heap.size 3 1 d L.length ((ints L).map (Value.int .i64)) from World.ownsRow.alloc (show wr.ownsRow W6.heap.size 3 1 d L.length ((ints L).map (Value.int .i64)) from hO.out) _)
                              have hbX := Lib.hid (Below.alloc hB.out hsz (.cells #[.int .i64 (x : Int)] 3))
                              go_wp2_with (at_builtin; go_must (refine wpList_append_any _ rfl _ _ 22 rfl W6.heap.size 3 j0 (.int .i64 0) 1 8 Try.underlying22 hjj hy0 hy1 hy2 rfl (by decide) _ L.length _ rfl OX.out (wr.heap.size + 1) _ 1 1 [.int .i64 (x : Int)] rfl (one_reads wr x) (one_one _) (by unfold maxLen; omega) (by omega) (by simp; omega) ?_; intro v3 w4 hown3 hg3 hat3; have S4 := Lib.hid (show Row.own w4 W6.heap.size (nrow v3 (restTo fm2' j (p + 1))) from (by rw [HN.out]; exact nrow_app hown3)); have B4 := Lib.hid (grown_below hbX.out OX.out hg3 (Nat.le_refl _) (by simp; omega)); have z4 := hg3.size; (simp at z4); clear hown3 hg3 hat3))
                              go_roundw
                              case rel => exact ⟨p + 1, v3, rfl, by omega, by go_num, S4, B4, by omega⟩
                              case measure => simp [intOf]; omega
                          · obtain rfl : p = m := by omega
                            clear hlt hp
                            have i6 : ¬ (p : Int) < (p : Int) := by omega
                            rw [show restTo fm2' j p = setB (clearB fm2' j) 5 from by rw [HNF.out]; exact hra.out] at hO
                            clear hra
                            obtain ⟨nR, hnR⟩ : ∃ n, n = (setB (clearB fm2' j) 5).length := ⟨_, rfl⟩
                            obtain ⟨aD, cD, rfl⟩ : ∃ a c, d = .slice a nR c := by rw [hnR]; exact own_form hO.out
                            clear hnR
                            have GZ := Lib.hid (hG.out.call hB.out)
                            have c0 := GZ.out.bxT.cs 0 _ rfl
                            have c2 := GZ.out.bxT.cs 2 _ rfl
                            dsimp only at c0 c2
                            have HRZ := Lib.hid (nrow_rd (show Row.own wr w.heap.size (nrow (.slice aV vs.length cV) vs2) from GZ.out.fam.fam.head))
                            obtain ⟨L1, hL1⟩ : ∃ L, L = gSet vs2 j true := ⟨_, rfl⟩
                            obtain ⟨L2, hL2⟩ : ∃ L, L = gSet vs2 j false := ⟨_, rfl⟩
                            obtain ⟨cf, hcf⟩ : ∃ c, c = clearB fm2' j := ⟨_, rfl⟩
                            have HS1 := Lib.hid (fun w9 (h9 : RdI w9 (.slice aV vs.length cV) (ints vs2)) => (spec_l14Set_1 j _ vs2 w9 h9 HSM2.out hj5))
                            have HS0 := Lib.hid (fun w9 (h9 : RdI w9 (.slice aV vs.length cV) (ints vs2)) => (spec_l14Set_0 j _ vs2 w9 h9 HSM2.out hj5))
                            rw [← hL1] at HS1
                            rw [← hL2] at HS0
                            rw [← hL1, ← hL2, ← hcf] at HSPL
                            rw [← hcf] at hO
                            clear hL1 hL2 hcf
                            obtain ⟨n1x, hn1⟩ : ∃ n, n = L1.length := ⟨_, rfl⟩
                            obtain ⟨n2x, hn2⟩ : ∃ n, n = L2.length := ⟨_, rfl⟩
                            have HF1 : Hid (∀ (w9 : World) (B : Nat) (u : Value), Row.own w9 B (nrow u L1) → ∃ a c, u = .slice a n1x c) := (fun w9 B u h9 => by rw [hn1]; exact own_form h9)
                            have HF2 : Hid (∀ (w9 : World) (B : Nat) (u : Value), Row.own w9 B (nrow u L2) → ∃ a c, u = .slice a n2x c) := (fun w9 B u h9 => by rw [hn2]; exact own_form h9)
                            clear hn1 hn2
                            obtain ⟨tgt, htg⟩ : ∃ t, t = if tg2 < 0 then (j : Int) else tg2 := ⟨_, rfl⟩
                            go_upto_if 150 with fail
                            go_cut [21] (fun s21 wx => s21 = .int .i64 tgt ∧ wx = wr)
                            case first =>
                              by_cases i2 : tg2 < 0
                              · rw [if_pos i2] at htg
                                subst htg
                                go_wp2_with fail
                                go_meet
                                exact ⟨rfl, rfl⟩
                              · rw [if_neg i2] at htg
                                subst htg
                                go_wp2_with fail
                                go_meet
                                exact ⟨rfl, rfl⟩
                            case rest =>
                              obtain ⟨rfl, rfl⟩ := hcut
                              have HTG := Lib.hid htg
                              clear htg
                              go_upto_region 43 with fail
                              have HD1 := Lib.hid (own_below hO.out (show Below wc.heap.size wc wc.drew from (by repeat (first | exact Below.refl _ _ | assumption | refine Below.drew ?_ | refine below_drewN ?_ _ | refine Below.alloc ?_ (by first | omega | (simp <;> omega)) _ | refine Below.setCell ?_ (by first | omega | (simp <;> omega)) _ | refine Below.trans ?_ (Below.mono (by assumption) (by first | omega | (simp <;> omega)))))) rfl)
                              have HB1 := Lib.hid (show Below W6.heap.size W6 wc.drew from Below.trans hB.out ((show Below wc.heap.size wc wc.drew from (by repeat (first | exact Below.refl _ _ | assumption | refine Below.drew ?_ | refine below_drewN ?_ _ | refine Below.alloc ?_ (by first | omega | (simp <;> omega)) _ | refine Below.setCell ?_ (by first | omega | (simp <;> omega)) _ | refine Below.trans ?_ (Below.mono (by assumption) (by first | omega | (simp <;> omega)))))).mono hsz))
                              replace GZ := Lib.hid (GZ.out.call (show Below wc.heap.size wc wc.drew from (by repeat (first | exact Below.refl _ _ | assumption | refine Below.drew ?_ | refine below_drewN ?_ _ | refine Below.alloc ?_ (by first | omega | (simp <;> omega)) _ | refine Below.setCell ?_ (by first | omega | (simp <;> omega)) _ | refine Below.trans ?_ (Below.mono (by assumption) (by first | omega | (simp <;> omega)))))))
                              replace HRZ := Lib.hid (Rd.below HRZ.out (show Below wc.heap.size wc wc.drew from (by repeat (first | exact Below.refl _ _ | assumption | refine Below.drew ?_ | refine below_drewN ?_ _ | refine Below.alloc ?_ (by first | omega | (simp <;> omega)) _ | refine Below.setCell ?_ (by first | omega | (simp <;> omega)) _ | refine Below.trans ?_ (Below.mono (by assumption) (by first | omega | (simp <;> omega)))))) rfl)
                              replace c0 := cell_drew c0
                              replace c2 := cell_drew c2
                              refine AnyB.begin (S := (fun w' => w'.cell? ⟨bx, 0, none⟩ = some (.slice aV vs.length cV) ∧ w'.cell? ⟨bx, 2, none⟩ = some (.int .i64 tg2))) [] (by kernel_rfl) ?_ (fun hHeld0 => ?_)
                              · ((try dsimp only); (first | exact ⟨c0, c2⟩ | exact ⟨cell_alloc_keep _ c0, cell_alloc_keep _ c2⟩))
                              refine AnyB.takeQ (i := 0) (oi := _) (v := ?_) (by simp only [List.getElem?_toArray, List.getElem?_cons_zero, List.getElem?_cons_succ]; rfl) (by kernel_rfl) (by kernel_rfl) (by kernel_rfl) (by intro _ _ _ h; exact h) (Or.inl ⟨by rfl, ?_⟩) ?_
                              rotate_left
                              · (intro w hSw; (try dsimp only at hSw); go_simp; (try (with_reducible rfl)))
                              try simp only [Act.put, List.setIfInBounds_toArray, List.set_cons_zero, List.set_cons_succ]
                              refine AnyB.takeQ (i := 1) (oi := _) (v := ?_) (by simp only [List.getElem?_toArray, List.getElem?_cons_zero, List.getElem?_cons_succ]; rfl) (by kernel_rfl) (by kernel_rfl) (by kernel_rfl) (by intro _ _ _ h; exact h) (Or.inl ⟨by rfl, ?_⟩) ?_
                              rotate_left
                              · (intro w hSw; (try dsimp only at hSw); go_simp; (try (with_reducible rfl)))
                              try simp only [Act.put, List.setIfInBounds_toArray, List.set_cons_zero, List.set_cons_succ]
                              refine AnyB.take (i := 2) (oi := _) (v := ?_) (by simp only [List.getElem?_toArray, List.getElem?_cons_zero, List.getElem?_cons_succ]; rfl) (by kernel_rfl) (by kernel_rfl) (by kernel_rfl) (by kernel_rfl) (by kernel_rfl) (by intro _ _ _ h; exact h) (Or.inl ⟨by rfl, ?_⟩) (by assumption) ?_
                              rotate_left
                              · (intro w hSw; (try dsimp only at hSw); go_simp; (try (with_reducible rfl)))
                              try simp only [Act.put, List.setIfInBounds_toArray, List.set_cons_zero, List.set_cons_succ]
                              refine AnyB.takeQ (i := 3) (oi := _) (v := ?_) (by simp only [List.getElem?_toArray, List.getElem?_cons_zero, List.getElem?_cons_succ]; rfl) (by kernel_rfl) (by kernel_rfl) (by kernel_rfl) (by intro _ _ _ h; exact h) (Or.inl ⟨by rfl, ?_⟩) ?_
                              rotate_left
                              · (intro w hSw; (try dsimp only at hSw); go_simp; (try (with_reducible rfl)))
                              try simp only [Act.put, List.setIfInBounds_toArray, List.set_cons_zero, List.set_cons_succ]
                              refine AnyB.takeQ (i := 5) (oi := _) (v := ?_) (by simp only [List.getElem?_toArray, List.getElem?_cons_zero, List.getElem?_cons_succ]; rfl) (by kernel_rfl) (by kernel_rfl) (by kernel_rfl) (by intro _ _ _ h; exact h) (Or.inl ⟨by rfl, ?_⟩) ?_
                              rotate_left
                              · (intro w hSw; (try dsimp only at hSw); go_simp; (try (with_reducible rfl)))
                              try simp only [Act.put, List.setIfInBounds_toArray, List.set_cons_zero, List.set_cons_succ]
                              refine AnyB.takeQ (i := 6) (oi := _) (v := ?_) (by simp only [List.getElem?_toArray, List.getElem?_cons_zero, List.getElem?_cons_succ]; rfl) (by kernel_rfl) (by kernel_rfl) (by kernel_rfl) (by intro _ _ _ h; exact h) (Or.inl ⟨by rfl, ?_⟩) ?_
                              rotate_left
                              · (intro w hSw; (try dsimp only at hSw); go_simp; (try (with_reducible rfl)))
                              try simp only [Act.put, List.setIfInBounds_toArray, List.set_cons_zero, List.set_cons_succ]
                              refine AnyB.takeQ (i := 8) (oi := _) (v := ?_) (by simp only [List.getElem?_toArray, List.getElem?_cons_zero, List.getElem?_cons_succ]; rfl) (by kernel_rfl) (by kernel_rfl) (by kernel_rfl) (by intro _ _ _ h; exact h) (Or.inl ⟨by rfl, ?_⟩) ?_
                              rotate_left
                              · (intro w hSw; (try dsimp only at hSw); go_simp; (try (with_reducible rfl)))
                              try simp only [Act.put, List.setIfInBounds_toArray, List.set_cons_zero, List.set_cons_succ]
                              refine AnyB.take (i := 9) (oi := _) (v := ?_) (by simp only [List.getElem?_toArray, List.getElem?_cons_zero, List.getElem?_cons_succ]; rfl) (by kernel_rfl) (by kernel_rfl) (by kernel_rfl) (by kernel_rfl) (by kernel_rfl) (by intro _ _ _ h; exact h) (Or.inl ⟨by rfl, ?_⟩) (by assumption) ?_
                              rotate_left
                              · (intro w hSw; (try dsimp only at hSw); go_simp; (try (with_reducible rfl)))
                              try simp only [Act.put, List.setIfInBounds_toArray, List.set_cons_zero, List.set_cons_succ]
                              refine AnyB.takeQ (i := 10) (oi := _) (v := ?_) (by simp only [List.getElem?_toArray, List.getElem?_cons_zero, List.getElem?_cons_succ]; rfl) (by kernel_rfl) (by kernel_rfl) (by kernel_rfl) (by intro _ _ _ h; exact h) (Or.inl ⟨by rfl, ?_⟩) ?_
                              rotate_left
                              · (intro w hSw; (try dsimp only at hSw); go_simp; (try (with_reducible rfl)))
                              try simp only [Act.put, List.setIfInBounds_toArray, List.set_cons_zero, List.set_cons_succ]
                              refine AnyB.takeQ (i := 12) (oi := _) (v := ?_) (by simp only [List.getElem?_toArray, List.getElem?_cons_zero, List.getElem?_cons_succ]; rfl) (by kernel_rfl) (by kernel_rfl) (by kernel_rfl) (by intro _ _ _ h; exact h) (Or.inl ⟨by rfl, ?_⟩) ?_
                              rotate_left
                              · (intro w hSw; (try dsimp only at hSw); go_simp; (try (with_reducible rfl)))
                              try simp only [Act.put, List.setIfInBounds_toArray, List.set_cons_zero, List.set_cons_succ]
                              refine AnyB.takeQ (i := 13) (oi := _) (v := ?_) (by simp only [List.getElem?_toArray, List.getElem?_cons_zero, List.getElem?_cons_succ]; rfl) (by kernel_rfl) (by kernel_rfl) (by kernel_rfl) (by intro _ _ _ h; exact h) (Or.inl ⟨by rfl, ?_⟩) ?_
                              rotate_left
                              · (intro w hSw; (try dsimp only at hSw); go_simp; (try (with_reducible rfl)))
                              try simp only [Act.put, List.setIfInBounds_toArray, List.set_cons_zero, List.set_cons_succ]
                              refine AnyB.take (i := 14) (oi := _) (v := ?_) (by simp only [List.getElem?_toArray, List.getElem?_cons_zero, List.getElem?_cons_succ]; rfl) (by kernel_rfl) (by kernel_rfl) (by kernel_rfl) (by kernel_rfl) (by kernel_rfl) (by intro _ _ _ h; exact h) (Or.inl ⟨by rfl, ?_⟩) (by assumption) ?_
                              rotate_left
                              · (intro w hSw; (try dsimp only at hSw); go_simp; (try (with_reducible rfl)))
                              try simp only [Act.put, List.setIfInBounds_toArray, List.set_cons_zero, List.set_cons_succ]
                              refine AnyB.each (rs := [4]) (by kernel_rfl) (by simp) ?_
                              refine EachB.cons rfl (fun K hK hB => ?_) ?_
                              · skip
                                (go_simp; go_at_call 41; refine (HS1.out _ HRZ.out).mono ?_; rintro e w2 ⟨u1, rfl, hou, hbb⟩; obtain ⟨a1, c1x, rfl⟩ := HF1.out _ _ _ hou; have FM1 := Lib.hid (one_fam hou); have BB1 := Lib.hid hbb; have hq2 := hbb.size; replace c0 := bel_cell hbb c0; replace c2 := bel_cell hbb c2; replace HRZ := Lib.hid (Rd.below HRZ.out hbb rfl); replace GZ := Lib.hid (GZ.out.call hbb); clear hou hbb; dsimp only)
                                refine hK.out _ _ ?_ (fun hHeld1 => ?_)
                                · ((try dsimp only); (first | exact ⟨c0, c2⟩ | exact ⟨cell_alloc_keep _ c0, cell_alloc_keep _ c2⟩))
                                clear hB hK K hHeld0
                                refine AnyB.takeQ (i := 7) (oi := _) (v := ?_) (by simp only [List.getElem?_toArray, List.getElem?_cons_zero, List.getElem?_cons_succ]; rfl) (by kernel_rfl) (by kernel_rfl) (by kernel_rfl) (by intro _ _ _ h; exact h) (Or.inl ⟨by rfl, ?_⟩) ?_
                                rotate_left
                                · (intro w hSw; (try dsimp only at hSw); go_simp; (try (with_reducible rfl)))
                                try simp only [Act.put, List.setIfInBounds_toArray, List.set_cons_zero, List.set_cons_succ]
                                refine AnyB.each (rs := [11]) (by kernel_rfl) (by simp) ?_
                                refine EachB.cons rfl (fun K hK hB => ?_) ?_
                                · skip
                                  (go_simp; go_at_call 41; refine (HS0.out _ HRZ.out).mono ?_; rintro e w3 ⟨u2, rfl, hou, hbb⟩; obtain ⟨a2x, c2x, rfl⟩ := HF2.out _ _ _ hou; have FM2 := Lib.hid (FM1.out.add hbb hou hq2); have BB2 := Lib.hid (Below.trans BB1.out (hbb.mono hq2)); have hq3 := hbb.size; replace c0 := bel_cell hbb c0; replace c2 := bel_cell hbb c2; replace GZ := Lib.hid (GZ.out.call hbb); have OX := Lib.hid (show w3.ownsRow w.heap.size 58 3 (.slice (some ⟨gS, 0, none⟩) T'.length cS) T'.length (T2.flatMap TM.cs) from by have h9 : Row.own w3 w.heap.size (trow 58 (.slice (some ⟨gS, 0, none⟩) T'.length cS) T2) := GZ.out.fam.fam.own _ (by simp [srows]); unfold Row.own trow at h9; dsimp only at h9; rw [HTL2.out] at h9; exact h9); have HBW3 := GZ.out.BW; clear hou hbb; dsimp only)
                                  refine hK.out _ _ ?_ (fun hHeld2 => ?_)
                                  · ((try dsimp only); (first | exact ⟨c0, c2⟩ | exact ⟨cell_alloc_keep _ c0, cell_alloc_keep _ c2⟩))
                                  clear hB hK K hHeld1
                                  refine AnyB.takeQ (i := 15) (oi := _) (v := ?_) (by simp only [List.getElem?_toArray, List.getElem?_cons_zero, List.getElem?_cons_succ]; rfl) (by kernel_rfl) (by kernel_rfl) (by kernel_rfl) (by intro _ _ _ h; exact h) (Or.inl ⟨by rfl, ?_⟩) ?_
                                  rotate_left
                                  · (intro w hSw; (try dsimp only at hSw); go_simp; (try (with_reducible rfl)))
                                  try simp only [Act.put, List.setIfInBounds_toArray, List.set_cons_zero, List.set_cons_succ]
                                  refine AnyB.each (rs := [16]) (by kernel_rfl) (by simp) ?_
                                  refine EachB.cons rfl (fun K hK hB => ?_) ?_
                                  · skip
                                    go_simp
                                    refine hK.out _ _ ?_ (fun hHeld3 => ?_)
                                    · ((try dsimp only); (first | exact ⟨c0, c2⟩ | exact ⟨cell_alloc_keep _ c0, cell_alloc_keep _ c2⟩))
                                    clear hB hK K hHeld2
                                    refine AnyB.each (rs := [17]) (by kernel_rfl) (by simp) ?_
                                    refine EachB.cons rfl (fun K hK hB => ?_) ?_
                                    · skip
                                      (refine step_append_lies _ (by rfl) (.tmp 152) (.tmp 168) 59 (by rfl) w.heap.size 58 k0 (.agg #[.slice none 0 0, .slice none 0 0, .int .i64 0]) 3 56 Try.underlying59 hkk hx0 hx1 hx2 rfl (by omega) (.slice (some ⟨gS, 0, none⟩) T'.length cS) T'.length _ (by rfl) (OX.out.alloc _) _ 2 2 [.slice a1 n1x c1x, .slice aD nR cD, .int .i64 tgt, .slice a2x n2x c2x, .slice aD nR cD, .int .i64 tg2] (by rfl) (by rfl) (news_cells w3 [.slice a1 n1x c1x, .slice aD nR cD, .int .i64 tgt, .slice a2x n2x c2x, .slice aD nR cD, .int .i64 tg2] 58) task_two (by omega) (by unfold maxLen; omega) (by omega) (by simp; omega) _ rfl ?_; intro g1 cp1 w9 hown hgr hat hlt9; have SM := Lib.hid (HSPL.out (.slice aD nR cD) (.slice a1 n1x c1x) (.slice a2x n2x c2x) (.slice (some ⟨g1, 0, none⟩) (T'.length + 2) cp1) wc.drew w3 _ w9 tgt HTG.out HB1.out HD1.out BB2.out FM2.out (show Below w3.heap.size w3 (w3.alloc (.cells #[.slice a1 n1x c1x, .slice aD nR cD, .int .i64 tgt, .slice a2x n2x c2x, .slice aD nR cD, .int .i64 tg2] 58)) from (by repeat (first | exact Below.refl _ _ | assumption | refine Below.drew ?_ | refine below_drewN ?_ _ | refine Below.alloc ?_ (by first | omega | (simp <;> omega)) _ | refine Below.setCell ?_ (by first | omega | (simp <;> omega)) _ | refine Below.trans ?_ (Below.mono (by assumption) (by first | omega | (simp <;> omega)))))) hgr hown (hat.imp (fun e => e.symm) (fun e => by rw [e]; rfl))); have hof := GZ.out.bxT.off (trow 58 (.slice (some ⟨gS, 0, none⟩) T'.length cS) T2) (by simp [srows]); replace c0 := cell_grown hgr (cell_alloc_keep _ c0) hof; replace c2 := cell_grown hgr (cell_alloc_keep _ c2) hof; clear hown hgr hat hof)
                                      refine hK.out _ _ ?_ (fun hHeld4 => ?_)
                                      · ((try dsimp only); (first | exact ⟨c0, c2⟩ | exact ⟨cell_alloc_keep _ c0, cell_alloc_keep _ c2⟩))
                                      clear hB hK K hHeld3
                                      refine AnyB.takeQ (i := 18) (oi := _) (v := ?_) (by simp only [List.getElem?_toArray, List.getElem?_cons_zero, List.getElem?_cons_succ]; rfl) (by kernel_rfl) (by kernel_rfl) (by kernel_rfl) (by intro _ _ _ h; exact h) (Or.inl ⟨by rfl, ?_⟩) ?_
                                      rotate_left
                                      · (intro w hSw; (try dsimp only at hSw); go_simp; (try (with_reducible rfl)))
                                      try simp only [Act.put, List.setIfInBounds_toArray, List.set_cons_zero, List.set_cons_succ]
                                      refine AnyB.none (by kernel_rfl) ?_ _
                                      go_wp2_with fail
                                      go_roundg f
                                      case measure => omega
                                      case rel => exact ⟨_, _, _, O2, rfl, SM⟩
                                    exact EachB.nil
                                  exact EachB.nil
                                exact EachB.nil
                              exact EachB.nil
end Go.Proofs.Ytgonldkgghikiaa
namespace Go.Proofs.Ytgonldkgghikiaa
set_option linter.unusedSimpArgs false
set_option linter.unusedVariables false
set_option linter.unnecessarySimpa false
set_option maxRecDepth 200000
open Go.ChangeShapes Go.WideShapes Go.ChangeAt Go.RowKit

set_option maxHeartbeats 4000000 in
theorem spec_GrayNetwork_any (n : Int) (zs : List Int) (v : Value) (w : World) (h : RdI w v zs) (hl : zs.length ≤ 1048576) :
    Calls Try.prog 5 #[.int .i64 n, v] w (CircPost w (grG n zs)) := by
  have H := Lib.hid h
  clear h
  cases hb : masksB n zs with
  | false =>
    have HN := Lib.hid (gr_none hb)
    go_enter Try.func5, Try.ntmps5
    go_wp2_with fail
    refine (spec_l14Masks_any n v zs _ (Rd.below H.out (show Below w.heap.size w _ from (by repeat (first | exact Below.refl _ _ | assumption | refine Below.drew ?_ | refine below_drewN ?_ _ | refine Below.alloc ?_ (by first | omega | (simp <;> omega)) _ | refine Below.setCell ?_ (by first | omega | (simp <;> omega)) _ | refine Below.trans ?_ (Below.mono (by assumption) (by first | omega | (simp <;> omega)))))) rfl) hl).mono ?_; rintro e w2 ⟨rfl, rfl⟩
    rw [hb]
    go_wp2_with fail
    have r0 : (w.alloc (.cells #[.int .i64 0, .slice none 0 0] 25)).cell? ⟨w.heap.size, 0, none⟩ = some (.int .i64 0) := (by repeat (first | (refine Eq.trans (World.cell?_alloc_at _ _ _ _ ?hh) ?_; (case hh => (simp; done)); rfl) | refine cell_alloc_keep _ ?_))
    have r1 : (w.alloc (.cells #[.int .i64 0, .slice none 0 0] 25)).cell? ⟨w.heap.size, 1, none⟩ = some (.slice none 0 0) := (by repeat (first | (refine Eq.trans (World.cell?_alloc_at _ _ _ _ ?hh) ?_; (case hh => (simp; done)); rfl) | refine cell_alloc_keep _ ?_))
    have hZ := box_set2 (nb := w.heap.size) (.int .i64 0) (.slice none 0 0) r0 r1
    exact bodyPost_ret (v := .tuple #[.agg #[.int .i64 0, .slice none 0 0], .bool false]) (by simp [results, Try.results5, go_sem, hZ]) rfl (CircPost.none HN.out (by repeat (first | exact Below.refl _ _ | assumption | refine Below.drew ?_ | refine below_drewN ?_ _ | refine Below.alloc ?_ (by first | omega | (simp <;> omega)) _ | refine Below.setCell ?_ (by first | omega | (simp <;> omega)) _ | refine Below.trans ?_ (Below.mono (by assumption) (by first | omega | (simp <;> omega))))))
  | true =>
    obtain ⟨m, rfl, h1, h5, hz, hs⟩ := masks_sm hb
    have HG := Lib.hid (gr_some hb)
    have HS := Lib.hid hs
    have HI := Lib.hid (show RdI w v (ints (zs.map Int.toNat)) from by rw [← hz]; exact H.out)
    have HB := Lib.hid hb
    clear hz hs hb
    go_enter Try.func5, Try.ntmps5
    go_wp2_with fail
    refine (spec_l14Masks_any _ v zs _ (Rd.below H.out (show Below w.heap.size w _ from (by repeat (first | exact Below.refl _ _ | assumption | refine Below.drew ?_ | refine below_drewN ?_ _ | refine Below.alloc ?_ (by first | omega | (simp <;> omega)) _ | refine Below.setCell ?_ (by first | omega | (simp <;> omega)) _ | refine Below.trans ?_ (Below.mono (by assumption) (by first | omega | (simp <;> omega)))))) rfl) hl).mono ?_; rintro e w2 ⟨rfl, rfl⟩
    rw [HB.out]
    have x0 : (w.alloc (.cells #[.int .i64 0, .slice none 0 0] 25)).cell? ⟨w.heap.size, 0, none⟩ = some (.int .i64 0) := (by repeat (first | (refine Eq.trans (World.cell?_alloc_at _ _ _ _ ?hh) ?_; (case hh => (simp; done)); rfl) | refine cell_alloc_keep _ ?_))
    have x1 : (w.alloc (.cells #[.int .i64 0, .slice none 0 0] 25)).cell? ⟨w.heap.size, 1, none⟩ = some (.slice none 0 0) := (by repeat (first | (refine Eq.trans (World.cell?_alloc_at _ _ _ _ ?hh) ?_; (case hh => (simp; done)); rfl) | refine cell_alloc_keep _ ?_))
    have y0 : (w.alloc (.cells #[.int .i64 0, .slice none 0 0] 25)).frozen? ⟨w.heap.size, 0, none⟩ = false := (by repeat (first | (refine World.frozen?_alloc_at _ _ _ _ ?hh; case hh => (simp; done)) | (refine frozen_alloc_lt _ ?hh ?_; case hh => first | omega | (simp <;> omega))))
    have y1 : (w.alloc (.cells #[.int .i64 0, .slice none 0 0] 25)).frozen? ⟨w.heap.size, 1, none⟩ = false := (by repeat (first | (refine World.frozen?_alloc_at _ _ _ _ ?hh; case hh => (simp; done)) | (refine frozen_alloc_lt _ ?hh ?_; case hh => first | omega | (simp <;> omega))))
    have HW := Lib.hid (show Below w.heap.size w (w.alloc (.cells #[.int .i64 0, .slice none 0 0] 25)) from (by repeat (first | exact Below.refl _ _ | assumption | refine Below.drew ?_ | refine below_drewN ?_ _ | refine Below.alloc ?_ (by first | omega | (simp <;> omega)) _ | refine Below.setCell ?_ (by first | omega | (simp <;> omega)) _ | refine Below.trans ?_ (Below.mono (by assumption) (by first | omega | (simp <;> omega))))))
    have hsz : w.heap.size < (w.alloc (.cells #[.int .i64 0, .slice none 0 0] 25)).heap.size := by simp
    generalize (w.alloc (.cells #[.int .i64 0, .slice none 0 0] 25)) = W at *
    go_wp2_with fail
    refine (spec_l14Gray_any m v _ _ (Rd.below HI.out HW.out rfl) HS.out h1 h5).mono ?_; rintro e w2 ⟨u2, rfl, ho2, hb2⟩
    replace x0 := bel_cell hb2 x0; replace x1 := bel_cell hb2 x1
    have z0 := below_frz hb2 rfl hsz y0; have z1 := below_frz hb2 rfl hsz y1
    have HB2 := Lib.hid (Below.trans HW.out (hb2.mono (by omega)))
    have hs2 := hb2.size
    obtain ⟨aV, cV, rfl⟩ := ho2.forms
    have HO2 := Lib.hid ho2
    clear y0 y1 ho2 hb2
    have hZ := box_set2 (nb := w.heap.size) (.int .i64 (m : Int)) (.slice aV (gAll m (zs.map Int.toNat)).length cV) x0 x1
    have bq := HB2.out
    go_wp2_with fail
    exact bodyPost_ret (v := .tuple #[.agg #[.int .i64 (m : Int), .slice aV (gAll m (zs.map Int.toNat)).length cV], .bool true]) (by simp [results, Try.results5, go_sem, hZ]) rfl (CircPost.some HG.out (OwnE.le (OwnE.set (OwnE.set HO2.out (by show w.heap.size < _; omega) _) (by show w.heap.size < _; omega) _) (by omega)) (by repeat (first | exact Below.refl _ _ | assumption | refine Below.drew ?_ | refine below_drewN ?_ _ | refine Below.alloc ?_ (by first | omega | (simp <;> omega)) _ | refine Below.setCell ?_ (by first | omega | (simp <;> omega)) _ | refine Below.trans ?_ (Below.mono (by assumption) (by first | omega | (simp <;> omega))))))
end Go.Proofs.Ytgonldkgghikiaa
