/- InvertLinear in the program and in the reference. -/
import Derived.Test.YtfcmakabejnicabRed2
import Derived.Test.YtfcmakabejnicabLin4
namespace Go.Proofs.Ytfcmakabejnicab
set_option linter.unusedSimpArgs false
set_option linter.unusedVariables false
set_option linter.unnecessarySimpa false
set_option maxRecDepth 200000
open Go.ChangeShapes Go.WideShapes Go.ChangeAt Go.RowKit

theorem Mid.setc {w w' : World} {lo hi : Nat} (h : Mid lo hi w w') {b o : Nat} (hb : lo ≤ b ∧ b < hi) (u : Value) : Mid lo hi w (w'.setCell ⟨b, o, none⟩ u) :=
  have q := Below.setCell (p := ⟨b, o, none⟩) (Below.refl 0 w') (Nat.zero_le _) u
  ⟨q.os.trans h.os, q.tape.trans h.tape, q.output.trans h.output, Nat.le_trans h.size q.size, fun k hk hkk => by rw [Below.heap_setCell w' ⟨b, o, none⟩ u k (by dsimp only; omega)]; exact h.block k hk hkk⟩
theorem Mid.drew {w w' : World} {lo hi : Nat} (h : Mid lo hi w w') : Mid lo hi w w'.drew := h.trans (.of_below (show Below w'.heap.size w' w'.drew from (by repeat (first | exact Below.refl _ _ | assumption | refine Below.drew ?_ | refine below_drewN ?_ _ | refine Below.alloc ?_ (by first | omega | (simp <;> omega)) _ | refine Below.setCell ?_ (by first | omega | (simp <;> omega)) _ | refine Below.trans ?_ (Below.mono (by assumption) (by first | omega | (simp <;> omega)))))) rfl)
theorem Mid.call {w w' w'' : World} {lo hi : Nat} (h : Mid lo hi w w') (hb : Below w'.heap.size w' w'') : Mid lo hi w w'' := h.trans (.of_below hb rfl)
/-- What InvertLinear answers. -/
noncomputable def invLG (zs : List Int) : Option (List Int) := if LinOk zs then some (ints (cxs (idN zs.length) (redG (zs.map Int.toNat)))) else none
theorem invLG_len (zs : List Int) : ((invLG zs).getD []).length ≤ 1000000 := by
  unfold invLG; split
  · next h =>
    obtain ⟨⟨_, h5⟩, _⟩ := h
    simp [ints_len, cxs_len, idN_len]; omega
  · simp
theorem red_gate {L : List Nat} (h : Small L) {k : Nat} (hk : k < (redG L).length) : ∃ a b : Nat, (redG L).getD k ⟨0, 0, 0⟩ = ⟨9, (a : Int), (b : Int)⟩ ∧ a < L.length ∧ b < L.length ∧ a ≠ b := by
  have e : (redG L).getD k ⟨0, 0, 0⟩ = (redG L)[k] := by simp [List.getD, hk]
  have hg := (redG_ok h).gates (redG L)[k] (List.getElem_mem hk)
  rw [e]
  generalize (redG L)[k] = g at hg ⊢
  obtain ⟨x, y, z⟩ := g
  dsimp only at hg
  obtain ⟨rfl, h1, h2, h3, h4, h5⟩ := hg
  obtain ⟨a, rfl⟩ := Int.eq_ofNat_of_zero_le h1
  obtain ⟨b, rfl⟩ := Int.eq_ofNat_of_zero_le h3
  exact ⟨a, b, rfl, by omega, by omega, fun e => h5 (by rw [e])⟩
theorem red_few {L : List Nat} (h : Small L) (h5 : L.length ≤ 5) : (redG L).length ≤ 50 := by
  have h1 : (redG L).length ≤ L.length * (2 * L.length) := (redG_ok h).few
  have h2 : L.length * (2 * L.length) ≤ 5 * (2 * 5) := Nat.mul_le_mul h5 (by omega)
  omega
theorem cxs_next {L gs : List E3} {M : List Nat} {k a b : Nat} (h : k < gs.length) (hg : gs.getD k ⟨0, 0, 0⟩ = ⟨9, (a : Int), (b : Int)⟩) : cxs M (gs.take (k + 1)) = cxN (cxs M (gs.take k)) a b := by
  rw [cxs_take h]
  have e : gs[k] = ⟨9, (a : Int), (b : Int)⟩ := by rw [← hg]; simp [List.getD, h]
  rw [e]; simp
set_option maxHeartbeats 8000000 in
theorem spec_InvertLinear_any (v : Value) (zs : List Int) (w : World) (h : RdI w v zs) (hn : zs.length ≤ 1048576) :
    Calls Try.prog 8 #[.agg #[v]] w (LinPost w (invLG zs)) := by
  have H := Lib.hid h
  obtain ⟨A, c, rfl, _⟩ := h.form
  clear h
  by_cases hk : LinOk zs
  · have HB := Lib.hid (linB_true hk)
    have HG := Lib.hid (show invLG zs = some (ints (cxs (idN zs.length) (redG (zs.map Int.toNat)))) from if_pos hk)
    obtain ⟨n1, n5⟩ := hk.small.1
    obtain ⟨hz, hs⟩ := hk.nat
    clear hk
    generalize zs.map Int.toNat = L at *
    subst hz
    rw [ints_len] at *
    have HS := Lib.hid hs; clear hs
    have HF := red_few HS.out n5
    go_enter Try.func8, Try.ntmps8
    go_wp2_with fail
    refine (spec_l12Valid_any _ (ints L) _ (Rd.below H.out (show Below w.heap.size w _ from (by repeat (first | exact Below.refl _ _ | assumption | refine Below.drew ?_ | refine below_drewN ?_ _ | refine Below.alloc ?_ (by first | omega | (simp <;> omega)) _ | refine Below.setCell ?_ (by first | omega | (simp <;> omega)) _ | refine Below.trans ?_ (Below.mono (by assumption) (by first | omega | (simp <;> omega)))))) rfl) (by rw [ints_len]; omega)).mono ?_; rintro e w1 ⟨rfl, hb1⟩; rw [HB.out]
    have t0 := below_cell hb1 rfl (show ((w.alloc (.cells #[.slice A L.length c] 26)).alloc (.cells #[.slice none 0 0] 26)).cell? ⟨w.heap.size, 0, none⟩ = some (.slice A L.length c) from (by repeat (first | (refine Eq.trans (World.cell?_alloc_at _ _ _ _ ?hh) ?_; (case hh => (simp; done)); rfl) | refine cell_alloc_keep _ ?_)))
    have r0 := below_cell hb1 rfl (show ((w.alloc (.cells #[.slice A L.length c] 26)).alloc (.cells #[.slice none 0 0] 26)).cell? ⟨w.heap.size + 1, 0, none⟩ = some (.slice none 0 0) from (by repeat (first | (refine Eq.trans (World.cell?_alloc_at _ _ _ _ ?hh) ?_; (case hh => (simp; done)); rfl) | refine cell_alloc_keep _ ?_)))
    have f0 := below_frz hb1 rfl (by simp) (show ((w.alloc (.cells #[.slice A L.length c] 26)).alloc (.cells #[.slice none 0 0] 26)).frozen? ⟨w.heap.size + 1, 0, none⟩ = false from (by repeat (first | (refine World.frozen?_alloc_at _ _ _ _ ?hh; case hh => (simp; done)) | (refine frozen_alloc_lt _ ?hh ?_; case hh => first | omega | (simp <;> omega)))))
    have z1 := hb1.size; (simp at z1)
    have bw1 := Lib.hid (show Below w.heap.size w w1 from (by repeat (first | exact Below.refl _ _ | assumption | refine Below.drew ?_ | refine below_drewN ?_ _ | refine Below.alloc ?_ (by first | omega | (simp <;> omega)) _ | refine Below.setCell ?_ (by first | omega | (simp <;> omega)) _ | refine Below.trans ?_ (Below.mono (by assumption) (by first | omega | (simp <;> omega)))))); clear hb1
    go_wp2_with fail
    refine (spec_l12Identity_any (L.length : Int) _ (by omega) (by omega)).mono ?_; rintro e w2 ⟨v1, rfl, ho1, hb2⟩
    rw [Int.toNat_natCast, idN_ints] at ho1
    obtain ⟨g1, cap1, rfl, hg1a, hg1b⟩ := own_ints ho1 (by rw [idN_len]; omega)
    rw [idN_len] at *
    have z2 := hb2.size
    replace t0 := below_cell hb2 rfl t0; replace r0 := below_cell hb2 rfl r0; replace f0 := below_frz hb2 rfl (by omega) f0
    have bw2 := Lib.hid (show Below w.heap.size w w2 from Below.trans bw1.out (hb2.mono (by omega)))
    have O1 := Lib.hid (OwnI.le ho1 (base' := w.heap.size + 2) (by omega))
    clear hb2 ho1
    replace t0 := cell_alloc_keep (.cells #[.slice (some ⟨g1, 0, none⟩) L.length cap1] 26) t0
    replace r0 := cell_alloc_keep (.cells #[.slice (some ⟨g1, 0, none⟩) L.length cap1] 26) r0
    replace f0 := frozen_alloc_lt (.cells #[.slice (some ⟨g1, 0, none⟩) L.length cap1] 26) (by omega) f0
    go_wp2_with fail
    have RL := Lib.hid (Rd.below H.out (show Below w.heap.size w (w2.alloc (.cells #[.slice (some ⟨g1, 0, none⟩) L.length cap1] 26)) from Below.alloc bw2.out (by omega) _) rfl)
    refine (spec_l12Reduce_any _ L L.length _ RL.out HS.out rfl n1 n5).mono ?_; rintro e w3 ⟨u3, rfl, ho3, hb3⟩
    obtain ⟨aG, cG, hu3, Hc⟩ := gate_at ho3.rd
    subst hu3
    have z3 := hb3.size; (simp at z3)
    have LG := Lib.hid (show ∀ b off, aG = some ⟨b, off, none⟩ → w2.heap.size < b from fun b off h => by have := (ho3.lt b (by rw [h]; rfl)).1; simp at this; omega)
    have c0 : w3.cell? ⟨w2.heap.size, 0, none⟩ = some (.slice (some ⟨g1, 0, none⟩) L.length cap1) := below_cell hb3 rfl (by repeat (first | (refine Eq.trans (World.cell?_alloc_at _ _ _ _ ?hh) ?_; (case hh => (simp; done)); rfl) | refine cell_alloc_keep _ ?_))
    have cf : w3.frozen? ⟨w2.heap.size, 0, none⟩ = false := below_frz hb3 rfl (by simp) (by repeat (first | (refine World.frozen?_alloc_at _ _ _ _ ?hh; case hh => (simp; done)) | (refine frozen_alloc_lt _ ?hh ?_; case hh => first | omega | (simp <;> omega))))
    have O3 := Lib.hid (OwnI.below (OwnI.below O1.out (show Below w2.heap.size w2 (w2.alloc (.cells #[.slice (some ⟨g1, 0, none⟩) L.length cap1] 26)) from (by repeat (first | exact Below.refl _ _ | assumption | refine Below.drew ?_ | refine below_drewN ?_ _ | refine Below.alloc ?_ (by first | omega | (simp <;> omega)) _ | refine Below.setCell ?_ (by first | omega | (simp <;> omega)) _ | refine Below.trans ?_ (Below.mono (by assumption) (by first | omega | (simp <;> omega)))))) rfl) hb3 rfl)
    replace r0 := below_cell hb3 rfl r0; replace f0 := below_frz hb3 rfl (by simp; omega) f0
    have R0 := Lib.hid r0; have F0 := Lib.hid f0
    have bw3 := Lib.hid (show Below w.heap.size w w3 from Below.trans (Below.alloc bw2.out (by omega) _) (hb3.mono (by simp; omega)))
    have hne0 : g1 ≠ w2.heap.size := by omega
    clear hb3 ho3 O1 RL t0 r0 f0
    go_wp2_with fail
    go_loopw [18] (fun i wr => ∃ (k g cap : Nat), k ≤ (redG L).length ∧ i = .int .i64 k ∧ wr.cell? ⟨w2.heap.size, 0, none⟩ = some (.slice (some ⟨g, 0, none⟩) L.length cap) ∧ wr.frozen? ⟨w2.heap.size, 0, none⟩ = false ∧ Hid (OwnI wr (w.heap.size + 2) (.slice (some ⟨g, 0, none⟩) L.length cap) (ints (cxs (idN L.length) ((redG L).take k)))) ∧ g ≠ w2.heap.size ∧ Hid (Mid w2.heap.size (w2.heap.size + 1) w3 wr)) (fun i _ => (redG L).length - (intOf i).toNat)
    case atStart => exact ⟨0, g1, cap1, Nat.zero_le _, rfl, c0, cf, O3, hne0, (show Mid _ _ _ _ from Mid.of_below (Below.refl w3.heap.size w3) rfl)⟩
    case round =>
      clear c0 cf O3 hne0
      obtain ⟨k, g, cap, hk, rfl, c0, cf, hO, hne, hmid⟩ := hrel
      have L0 := World.block_lt_of_cell? _ _ c0
      have zr := hmid.out.size
      by_cases hlt : k < (redG L).length
      · obtain ⟨b0, off, hA, hb0, q0, q1, q2⟩ := Hc.out k hlt
        have hb9 := LG.out b0 off hA
        subst hA
        replace q0 := hmid.out.cell (by omega) q0; replace q1 := hmid.out.cell (by omega) q1; replace q2 := hmid.out.cell (by omega) q2
        obtain ⟨a, b, hg, ha, hb, hab⟩ := red_gate HS.out hlt
        have HN := Lib.hid (cxs_next (L := []) (M := idN L.length) hlt hg)
        rw [hg] at q0 q1 q2
        have hSM := Lib.hid (Small.cxs (idN_small n5) ((redG L).take k))
        have hlR : (cxs (idN L.length) ((redG L).take k)).length = L.length := by rw [cxs_len, idN_len]
        obtain ⟨R, hR⟩ : ∃ R, R = cxs (idN L.length) ((redG L).take k) := ⟨_, rfl⟩
        rw [← hR] at hO hSM hlR HN
        have i1 : (k : Int) < ((redG L).length : Int) := by omega
        have gOwn := Lib.hid (hO.out.lt g rfl)
        clear hg hR hab
        go_wp2_with fail
        have hRw := Lib.hid (OwnI.below hO.out (show Below wr.heap.size wr (wr.alloc (.cells #[.int .i64 9, .int .i64 (a : Int), .int .i64 (b : Int)] 62)) from (by repeat (first | exact Below.refl _ _ | assumption | refine Below.drew ?_ | refine below_drewN ?_ _ | refine Below.alloc ?_ (by first | omega | (simp <;> omega)) _ | refine Below.setCell ?_ (by first | omega | (simp <;> omega)) _ | refine Below.trans ?_ (Below.mono (by assumption) (by first | omega | (simp <;> omega)))))) rfl)
        refine (spec_l12CX_any _ R a b _ hRw.out.rd hSM.out (by omega) (by omega) (by omega)).mono ?_; rintro e x1 ⟨v', rfl, ho', hx1⟩
        obtain ⟨gN, capN, hvN, hgN1, hgN2⟩ := own_ints ho' (by rw [cxN_len]; omega)
        rw [cxN_len, hlR] at hvN; subst hvN
        have zx := hx1.size; (try simp at zx); (try simp at hgN1)
        have d0 := below_cell hx1 rfl (cell_alloc_keep (.cells #[.int .i64 9, .int .i64 (a : Int), .int .i64 (b : Int)] 62) c0)
        have df := below_frz hx1 rfl (by simp; omega) (frozen_alloc_keep (.cells #[.int .i64 9, .int .i64 (a : Int), .int .i64 (b : Int)] 62) c0 cf)
        have N1 := Lib.hid (OwnI.le ho' (base' := w.heap.size + 2) (by simp; have := gOwn.out.1; omega))
        have mx := Lib.hid (show Mid w2.heap.size (w2.heap.size + 1) w3 x1 from (hmid.out.call (show Below wr.heap.size wr (wr.alloc (.cells #[.int .i64 9, .int .i64 (a : Int), .int .i64 (b : Int)] 62)) from (by repeat (first | exact Below.refl _ _ | assumption | refine Below.drew ?_ | refine below_drewN ?_ _ | refine Below.alloc ?_ (by first | omega | (simp <;> omega)) _ | refine Below.setCell ?_ (by first | omega | (simp <;> omega)) _ | refine Below.trans ?_ (Below.mono (by assumption) (by first | omega | (simp <;> omega))))))).call hx1)
        clear hx1 ho' hRw hO c0 cf
        go_wp2_with fail
        go_roundw
        case rel => exact ⟨k + 1, gN, capN, by omega, by go_num, World.cell?_setCell_same _ _ _ d0, by rw [World.frozen?_setCell]; exact df, (show OwnI _ _ _ _ from by rw [HN.out]; exact own_set_ne N1.out (fun g hg => by simp [Value.ownBlock] at hg; (try dsimp only); omega) _), by omega, (show Mid _ _ _ _ from mx.out.setc ⟨by omega, by omega⟩ _)⟩
        case measure => simp [intOf]; omega
      · have e9 : k = (redG L).length := by omega
        have HG2 := Lib.hid (show invLG (ints L) = some (ints (cxs (idN L.length) ((redG L).take k))) from by rw [HG.out, e9, List.take_length])
        have r1 := hmid.out.cell (show w.heap.size + 1 < w2.heap.size ∨ w2.heap.size + 1 ≤ w.heap.size + 1 by omega) R0.out
        have rf : wr.frozen? ⟨w.heap.size + 1, 0, none⟩ = false := by
          have h9 := hmid.out.block (w.heap.size + 1) (by omega) (by omega)
          rw [World.frozen?_of_block (w := w3) (w' := wr) (a := ⟨w.heap.size + 1, 0, none⟩) h9]; exact F0.out
        have bq : Below w.heap.size w wr := Below.trans bw3.out (hmid.out.below (by omega) (by omega))
        have hx2 : w.heap.size + 1 ≠ w2.heap.size := by omega
        have i1 : ¬ (k : Int) < ((redG L).length : Int) := by omega
        have GL := hO.out.lt g rfl
        clear e9
        go_wp2_with fail
        have hZ := World.cell?_setCell_same _ _ (.slice (some ⟨g, 0, none⟩) L.length cap) r1
        exact bodyPost_ret (v := .tuple #[.agg #[.slice (some ⟨g, 0, none⟩) L.length cap], .bool true]) (by simp [results, Try.results8, go_sem, hZ]) rfl (LinPost.some HG2.out (OwnI.le (OwnI.set hO.out (by simp) _) (by omega)) (by repeat (first | exact Below.refl _ _ | assumption | refine Below.drew ?_ | refine below_drewN ?_ _ | refine Below.alloc ?_ (by first | omega | (simp <;> omega)) _ | refine Below.setCell ?_ (by first | omega | (simp <;> omega)) _ | refine Below.trans ?_ (Below.mono (by assumption) (by first | omega | (simp <;> omega))))))
  · have HB := Lib.hid (linB_false hk)
    have HG := Lib.hid (show invLG zs = none from if_neg hk)
    clear hk
    go_enter Try.func8, Try.ntmps8
    go_wp2_with fail
    refine (spec_l12Valid_any _ zs _ (Rd.below H.out (show Below w.heap.size w _ from (by repeat (first | exact Below.refl _ _ | assumption | refine Below.drew ?_ | refine below_drewN ?_ _ | refine Below.alloc ?_ (by first | omega | (simp <;> omega)) _ | refine Below.setCell ?_ (by first | omega | (simp <;> omega)) _ | refine Below.trans ?_ (Below.mono (by assumption) (by first | omega | (simp <;> omega)))))) rfl) hn).mono ?_; rintro e w1 ⟨rfl, hb1⟩; rw [HB.out]
    have r0 := below_cell hb1 rfl (show ((w.alloc (.cells #[.slice A zs.length c] 26)).alloc (.cells #[.slice none 0 0] 26)).cell? ⟨w.heap.size + 1, 0, none⟩ = some (.slice none 0 0) from (by repeat (first | (refine Eq.trans (World.cell?_alloc_at _ _ _ _ ?hh) ?_; (case hh => (simp; done)); rfl) | refine cell_alloc_keep _ ?_)))
    obtain ⟨hc_hb1, hf_hb1⟩ := bcell hb1; have hz_hb1 := hb1.size; (try simp at hz_hb1); have hs0_hb1 : w.heap.size < w1.heap.size := (by omega); have hs1_hb1 : w.heap.size + 1 < w1.heap.size := (by omega)
    go_wp2_with fail
    have hZ := World.cell?_setCell_same _ _ (.slice none 0 0) r0
    exact bodyPost_ret (v := .tuple #[.agg #[.slice none 0 0], .bool false]) (by simp [results, Try.results8, go_sem, hZ]) rfl (LinPost.none HG.out (by repeat (first | exact Below.refl _ _ | assumption | refine Below.drew ?_ | refine below_drewN ?_ _ | refine Below.alloc ?_ (by first | omega | (simp <;> omega)) _ | refine Below.setCell ?_ (by first | omega | (simp <;> omega)) _ | refine Below.trans ?_ (Below.mono (by assumption) (by first | omega | (simp <;> omega))))))
end Go.Proofs.Ytfcmakabejnicab
