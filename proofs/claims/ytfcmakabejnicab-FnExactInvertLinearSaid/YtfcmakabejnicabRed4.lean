/- InvertLinear in the program. -/
import Derived.Test.YtfcmakabejnicabRed3
import Derived.BigRegion
namespace Go.Proofs.Ytfcmakabejnicab
set_option linter.unusedSimpArgs false
set_option linter.unusedVariables false
set_option linter.unnecessarySimpa false
set_option maxRecDepth 200000
open Go.ChangeShapes Go.WideShapes Go.ChangeAt Go.RowKit

theorem Mid.ownN {w w' : World} {lo hi base g n cap : Nat} {M : List Nat} (h : Mid lo hi w w') (ho : OwnN w base g n cap M) (hb : g < lo ∨ hi ≤ g) : OwnN w' base g n cap M :=
  Mid.own h ho (fun k hk => by injection hk with hk; subst hk; exact hb)
set_option maxHeartbeats 8000000 in
theorem impl_inverted_any (v : Value) (L : List Nat) (w : World) (h : RdI w v (ints L)) (hs : Small L) (n1 : 1 ≤ L.length) (n5 : L.length ≤ 5) :
    Calls Try.prog 38 #[.agg #[v]] w fun e w' => ∃ u, e = .returned (.agg #[u]) ∧ OwnI w' w.heap.size u (ints (cxs (idN L.length) (redG L))) ∧ Below w.heap.size w w' := by
  have H := Lib.hid h
  obtain ⟨A, c, rfl, _⟩ := h.form
  clear h
  rw [ints_len] at *
  have HS := Lib.hid hs; clear hs
  have HF := red_few HS.out n5
  go_enter Try.func38, Try.ntmps38
  go_wp2_with fail
  refine (impl_identityLinear_any (L.length : Int) _ (by omega) (by omega)).mono ?_; rintro e w2 ⟨v1, rfl, ho1, hb2⟩
  rw [Int.toNat_natCast, idN_ints] at ho1
  obtain ⟨g1, cap1, rfl, hg1a, hg1b⟩ := own_ints ho1 (by rw [idN_len]; omega)
  rw [idN_len] at *
  have t0 := below_cell hb2 rfl (show ((w.alloc (.cells #[.slice A L.length c] 26)).alloc (.cells #[.slice none 0 0] 26)).cell? ⟨w.heap.size, 0, none⟩ = some (.slice A L.length c) from (by repeat (first | (refine Eq.trans (World.cell?_alloc_at _ _ _ _ ?hh) ?_; (case hh => (simp; done)); rfl) | refine cell_alloc_keep _ ?_)))
  have r0 := below_cell hb2 rfl (show ((w.alloc (.cells #[.slice A L.length c] 26)).alloc (.cells #[.slice none 0 0] 26)).cell? ⟨w.heap.size + 1, 0, none⟩ = some (.slice none 0 0) from (by repeat (first | (refine Eq.trans (World.cell?_alloc_at _ _ _ _ ?hh) ?_; (case hh => (simp; done)); rfl) | refine cell_alloc_keep _ ?_)))
  have f0 := below_frz hb2 rfl (by simp) (show ((w.alloc (.cells #[.slice A L.length c] 26)).alloc (.cells #[.slice none 0 0] 26)).frozen? ⟨w.heap.size + 1, 0, none⟩ = false from (by repeat (first | (refine World.frozen?_alloc_at _ _ _ _ ?hh; case hh => (simp; done)) | (refine frozen_alloc_lt _ ?hh ?_; case hh => first | omega | (simp <;> omega)))))
  have z2 := hb2.size; (simp at z2); (simp at hg1a)
  have bw2 := Lib.hid (show Below w.heap.size w w2 from (by repeat (first | exact Below.refl _ _ | assumption | refine Below.drew ?_ | refine below_drewN ?_ _ | refine Below.alloc ?_ (by first | omega | (simp <;> omega)) _ | refine Below.setCell ?_ (by first | omega | (simp <;> omega)) _ | refine Below.trans ?_ (Below.mono (by assumption) (by first | omega | (simp <;> omega))))))
  have O1 := Lib.hid (OwnI.le ho1 (base' := w.heap.size) (by simp; omega))
  clear hb2 ho1
  replace t0 := cell_alloc_keep (.cells #[.slice (some ⟨g1, 0, none⟩) L.length cap1] 26) t0
  replace r0 := cell_alloc_keep (.cells #[.slice (some ⟨g1, 0, none⟩) L.length cap1] 26) r0
  replace f0 := frozen_alloc_lt (.cells #[.slice (some ⟨g1, 0, none⟩) L.length cap1] 26) (by omega) f0
  go_wp2_with fail
  have RL := Lib.hid (Rd.below H.out (show Below w.heap.size w (w2.alloc (.cells #[.slice (some ⟨g1, 0, none⟩) L.length cap1] 26)) from Below.alloc bw2.out (by omega) _) rfl)
  refine (impl_eliminated_any _ L L.length _ RL.out HS.out rfl n1 n5).mono ?_; rintro e w3 ⟨u3, rfl, ho3, hb3⟩
  obtain ⟨aG, cG, hu3, Hc⟩ := gate_at ho3.rd
  subst hu3
  have z3 := hb3.size; (simp at z3)
  have LG := Lib.hid (show ∀ b off, aG = some ⟨b, off, none⟩ → w2.heap.size < b from fun b off h => by have := (ho3.lt b (by rw [h]; rfl)).1; simp at this; omega)
  have c0 : w3.cell? ⟨w2.heap.size, 0, none⟩ = some (.slice (some ⟨g1, 0, none⟩) L.length cap1) := below_cell hb3 rfl (by repeat (first | (refine Eq.trans (World.cell?_alloc_at _ _ _ _ ?hh) ?_; (case hh => (simp; done)); rfl) | refine cell_alloc_keep _ ?_))
  have O3 := Lib.hid (show OwnN w3 w.heap.size g1 L.length cap1 (idN L.length) from by have h9 := OwnN.of (M := idN L.length) (by rw [idN_len]; exact OwnI.below (OwnI.below O1.out (show Below w2.heap.size w2 (w2.alloc (.cells #[.slice (some ⟨g1, 0, none⟩) L.length cap1] 26)) from (by repeat (first | exact Below.refl _ _ | assumption | refine Below.drew ?_ | refine below_drewN ?_ _ | refine Below.alloc ?_ (by first | omega | (simp <;> omega)) _ | refine Below.setCell ?_ (by first | omega | (simp <;> omega)) _ | refine Below.trans ?_ (Below.mono (by assumption) (by first | omega | (simp <;> omega)))))) rfl) hb3 rfl); rw [idN_len] at h9; exact h9)
  replace r0 := below_cell hb3 rfl r0; replace f0 := below_frz hb3 rfl (by simp; omega) f0
  have C0 := Lib.hid c0; have R0 := Lib.hid r0; have F0 := Lib.hid f0
  have bw3 := Lib.hid (show Below w.heap.size w w3 from Below.trans (Below.alloc bw2.out (by omega) _) (hb3.mono (by simp; omega)))
  have hne0 : g1 < w2.heap.size := by omega
  have hg2 : w.heap.size + 2 ≤ g1 := by omega
  clear hb3 ho3 O1 RL t0 r0 f0 c0
  go_wp2_with fail
  go_loopw [13] (fun i wr => ∃ (k : Nat), k ≤ (redG L).length ∧ i = .int .i64 k ∧ Hid (OwnN wr w.heap.size g1 L.length cap1 (cxs (idN L.length) ((redG L).take k))) ∧ Hid (Mid g1 (g1 + 1) w3 wr)) (fun i _ => (redG L).length - (intOf i).toNat)
  case atStart => exact ⟨0, Nat.zero_le _, rfl, O3, (show Mid _ _ _ _ from Mid.of_below (Below.refl w3.heap.size w3) rfl)⟩
  case round =>
    clear O3
    obtain ⟨k, hk, rfl, hO, hmid⟩ := hrel
    have zr := hmid.out.size
    have c0 := hmid.out.cell (show w2.heap.size < g1 ∨ g1 + 1 ≤ w2.heap.size by omega) C0.out
    have gO := hO.out.lt
    by_cases hlt : k < (redG L).length
    · obtain ⟨b0, off, hA, hb0, q0, q1, q2⟩ := Hc.out k hlt
      have hb9 := LG.out b0 off hA
      subst hA
      replace q0 := hmid.out.cell (by omega) q0; replace q1 := hmid.out.cell (by omega) q1; replace q2 := hmid.out.cell (by omega) q2
      obtain ⟨a, b, hg, ha, hb, hab⟩ := red_gate HS.out hlt
      have HN := Lib.hid (cxs_next (L := []) (M := idN L.length) hlt hg)
      rw [hg] at q0 q1 q2
      have hSM := Lib.hid (Small.cxs (idN_small n5) ((redG L).take k))
      have hlR : (cxs (idN L.length) ((redG L).take k)).length = L.length := by rw [cxs_len, idN_len]
      obtain ⟨R, hR⟩ : ∃ R, R = cxs (idN L.length) ((redG L).take k) := ⟨_, rfl⟩
      rw [← hR] at hO hSM hlR HN
      have i1 : (k : Int) < ((redG L).length : Int) := by omega
      clear hg hR
      have RW := Lib.hid (hO.out.below (show Below wr.heap.size wr (wr.alloc (.cells #[.int .i64 9, .int .i64 (a : Int), .int .i64 (b : Int)] 62)) from (by repeat (first | exact Below.refl _ _ | assumption | refine Below.drew ?_ | refine below_drewN ?_ _ | refine Below.alloc ?_ (by first | omega | (simp <;> omega)) _ | refine Below.setCell ?_ (by first | omega | (simp <;> omega)) _ | refine Below.trans ?_ (Below.mono (by assumption) (by first | omega | (simp <;> omega)))))) rfl)
      obtain ⟨x, hx⟩ : ∃ x, x = R.getD a 0 := ⟨_, rfl⟩
      obtain ⟨y, hy⟩ : ∃ y, y = R.getD b 0 := ⟨_, rfl⟩
      have hxa := hSM.out.get a
      have hxb := hSM.out.get b
      have ca := own_int_cell RW.out a (by omega)
      have cb := own_int_cell RW.out b (by omega)
      have fb := RW.out.frz b
      rw [← hx] at ca hxa; rw [← hy] at cb hxb
      have hxo := bits_xor y x (by omega) (by omega)
      have hr : Hid (cxN R a b = R.set b (y ^^^ x)) := by show _ = _; rw [hx, hy]; rfl
      have j1 : (a : Int) < (L.length : Int) := by omega
      have j2 : (b : Int) < (L.length : Int) := by omega
      have j3 : (0 : Int) ≤ (a : Int) := by omega
      have j4 : (0 : Int) ≤ (b : Int) := by omega
      have hne : g1 ≠ wr.heap.size := by omega
      have hne2 : wr.heap.size ≠ g1 := by omega
      have e1 : (wr.alloc (.cells #[.int .i64 9, .int .i64 (a : Int), .int .i64 (b : Int)] 62)).cell? ⟨wr.heap.size, 1, none⟩ = some (.int .i64 (a : Int)) := (by repeat (first | (refine Eq.trans (World.cell?_alloc_at _ _ _ _ ?hh) ?_; (case hh => (simp; done)); rfl) | refine cell_alloc_keep _ ?_))
      have e2 : (wr.alloc (.cells #[.int .i64 9, .int .i64 (a : Int), .int .i64 (b : Int)] 62)).cell? ⟨wr.heap.size, 2, none⟩ = some (.int .i64 (b : Int)) := (by repeat (first | (refine Eq.trans (World.cell?_alloc_at _ _ _ _ ?hh) ?_; (case hh => (simp; done)); rfl) | refine cell_alloc_keep _ ?_))
      replace c0 := cell_alloc_keep (.cells #[.int .i64 9, .int .i64 (a : Int), .int .i64 (b : Int)] 62) c0
      have mW := Lib.hid (show Mid g1 (g1 + 1) w3 (wr.alloc (.cells #[.int .i64 9, .int .i64 (a : Int), .int .i64 (b : Int)] 62)) from hmid.out.call (show Below wr.heap.size wr (wr.alloc (.cells #[.int .i64 9, .int .i64 (a : Int), .int .i64 (b : Int)] 62)) from (by repeat (first | exact Below.refl _ _ | assumption | refine Below.drew ?_ | refine below_drewN ?_ _ | refine Below.alloc ?_ (by first | omega | (simp <;> omega)) _ | refine Below.setCell ?_ (by first | omega | (simp <;> omega)) _ | refine Below.trans ?_ (Below.mono (by assumption) (by first | omega | (simp <;> omega)))))))
      clear hx hy hab hO hmid
      go_wp2_with fail
      generalize hW : wr.alloc (.cells #[.int .i64 9, .int .i64 (a : Int), .int .i64 (b : Int)] 62) = W at *
      have HW := Lib.hid hW; clear hW
      go_region
      have RN := Lib.hid (show OwnN ((W.setCell ⟨g1, b, none⟩ (.int .i64 ((y ^^^ x : Nat) : Int))).drew) w.heap.size g1 L.length cap1 (cxN R a b) from by rw [hr.out]; exact (OwnN.set RW.out b (y ^^^ x)).below (show Below (W.setCell ⟨g1, b, none⟩ (.int .i64 ((y ^^^ x : Nat) : Int))).heap.size (W.setCell ⟨g1, b, none⟩ (.int .i64 ((y ^^^ x : Nat) : Int))) (W.setCell ⟨g1, b, none⟩ (.int .i64 ((y ^^^ x : Nat) : Int))).drew from (by repeat (first | exact Below.refl _ _ | assumption | refine Below.drew ?_ | refine below_drewN ?_ _ | refine Below.alloc ?_ (by first | omega | (simp <;> omega)) _ | refine Below.setCell ?_ (by first | omega | (simp <;> omega)) _ | refine Below.trans ?_ (Below.mono (by assumption) (by first | omega | (simp <;> omega)))))) rfl)
      have MN := Lib.hid (show Mid g1 (g1 + 1) w3 ((W.setCell ⟨g1, b, none⟩ (.int .i64 ((y ^^^ x : Nat) : Int))).drew) from (mW.out.setc ⟨by omega, by omega⟩ _).drew)
      clear c0 ca cb fb e1 e2 RW mW
      go_wp2_with fail
      go_roundw
      case rel => exact ⟨k + 1, by omega, by go_num, (show OwnN _ _ _ _ _ _ from by rw [HN.out]; exact RN.out), MN.out⟩
      case measure => simp [intOf]; omega
    · have e9 : k = (redG L).length := by omega
      have HE := Lib.hid (show (redG L).take k = redG L from by rw [e9, List.take_length])
      have r1 := hmid.out.cell (show w.heap.size + 1 < g1 ∨ g1 + 1 ≤ w.heap.size + 1 by omega) R0.out
      have rf : wr.frozen? ⟨w.heap.size + 1, 0, none⟩ = false := by
        have h9 := hmid.out.block (w.heap.size + 1) (by omega) (by omega)
        rw [World.frozen?_of_block (w := w3) (w' := wr) (a := ⟨w.heap.size + 1, 0, none⟩) h9]; exact F0.out
      have bq : Below w.heap.size w wr := Below.trans bw3.out (hmid.out.below (by omega) (by omega))
      have i1 : ¬ (k : Int) < ((redG L).length : Int) := by omega
      have HOI := Lib.hid (show OwnI wr w.heap.size (.slice (some ⟨g1, 0, none⟩) L.length cap1) (ints (cxs (idN L.length) (redG L))) from by have h9 := hO.out.own; rw [HE.out] at h9; exact h9)
      clear e9 hO
      go_wp2_with fail
      have hZ := World.cell?_setCell_same _ _ (.slice (some ⟨g1, 0, none⟩) L.length cap1) r1
      exact bodyPost_ret (v := .agg #[.slice (some ⟨g1, 0, none⟩) L.length cap1]) (by simp [results, Try.results38, go_sem, hZ]) rfl ⟨_, rfl, own_set_ne HOI.out (fun g hg => by injection hg with hg; subst hg; dsimp only; omega) _, (by repeat (first | exact Below.refl _ _ | assumption | refine Below.drew ?_ | refine below_drewN ?_ _ | refine Below.alloc ?_ (by first | omega | (simp <;> omega)) _ | refine Below.setCell ?_ (by first | omega | (simp <;> omega)) _ | refine Below.trans ?_ (Below.mono (by assumption) (by first | omega | (simp <;> omega)))))⟩
set_option maxHeartbeats 4000000 in
theorem impl_InvertLinear_any (v : Value) (zs : List Int) (w : World) (h : RdI w v zs) (hn : zs.length ≤ 1048576) :
    Calls Try.prog 10 #[.agg #[v]] w (LinPost w (invLG zs)) := by
  have H := Lib.hid h
  obtain ⟨A, c, rfl, _⟩ := h.form
  clear h
  by_cases hk : LinOk zs
  · have HB := Lib.hid (linB_true hk)
    have HG := Lib.hid (show invLG zs = some (ints (cxs (idN zs.length) (redG (zs.map Int.toNat)))) from if_pos hk)
    obtain ⟨n1, n5⟩ := hk.small.1
    obtain ⟨hz, hs⟩ := hk.nat
    clear hk
    generalize zs.map Int.toNat = L at *
    subst hz
    rw [ints_len] at *
    have HS := Lib.hid hs; clear hs
    go_enter Try.func10, Try.ntmps10
    go_wp2_with fail
    refine (impl_IsValidLinear_any _ (ints L) _ (Rd.below H.out (show Below w.heap.size w _ from (by repeat (first | exact Below.refl _ _ | assumption | refine Below.drew ?_ | refine below_drewN ?_ _ | refine Below.alloc ?_ (by first | omega | (simp <;> omega)) _ | refine Below.setCell ?_ (by first | omega | (simp <;> omega)) _ | refine Below.trans ?_ (Below.mono (by assumption) (by first | omega | (simp <;> omega)))))) rfl) (by rw [ints_len]; omega)).mono ?_; rintro e w1 ⟨rfl, hb1⟩; rw [HB.out]
    have r0 := below_cell hb1 rfl (show ((w.alloc (.cells #[.slice A L.length c] 26)).alloc (.cells #[.slice none 0 0] 26)).cell? ⟨w.heap.size + 1, 0, none⟩ = some (.slice none 0 0) from (by repeat (first | (refine Eq.trans (World.cell?_alloc_at _ _ _ _ ?hh) ?_; (case hh => (simp; done)); rfl) | refine cell_alloc_keep _ ?_)))
    obtain ⟨hc_hb1, hf_hb1⟩ := bcell hb1; have hz_hb1 := hb1.size; (try simp at hz_hb1); have hs0_hb1 : w.heap.size < w1.heap.size := (by omega); have hs1_hb1 : w.heap.size + 1 < w1.heap.size := (by omega)
    go_wp2_with fail
    refine (impl_inverted_any _ L _ (Rd.below H.out (show Below w.heap.size w w1 from (by repeat (first | exact Below.refl _ _ | assumption | refine Below.drew ?_ | refine below_drewN ?_ _ | refine Below.alloc ?_ (by first | omega | (simp <;> omega)) _ | refine Below.setCell ?_ (by first | omega | (simp <;> omega)) _ | refine Below.trans ?_ (Below.mono (by assumption) (by first | omega | (simp <;> omega)))))) rfl) HS.out n1 n5).mono ?_; rintro e w2 ⟨u, rfl, ho, hb2⟩
    generalize ints (cxs (idN L.length) (redG L)) = PL at *
    obtain ⟨aU, cU, rfl⟩ := ho.forms
    have HO := Lib.hid (OwnI.le ho (base' := w.heap.size + 2) (by omega)); clear ho
    replace r0 := below_cell hb2 rfl r0
    obtain ⟨hc_hb2, hf_hb2⟩ := bcell hb2; have hz_hb2 := hb2.size; (try simp at hz_hb2); have hs0_hb2 : w.heap.size < w2.heap.size := (by omega); have hs1_hb2 : w.heap.size + 1 < w2.heap.size := (by omega)
    go_wp2_with fail
    have hZ := World.cell?_setCell_same _ _ (.slice aU PL.length cU) r0
    exact bodyPost_ret (v := .tuple #[.agg #[.slice aU PL.length cU], .bool true]) (by simp [results, Try.results10, go_sem, hZ]) rfl (LinPost.some HG.out (OwnI.le (OwnI.set HO.out (by simp) _) (by omega)) (by repeat (first | exact Below.refl _ _ | assumption | refine Below.drew ?_ | refine below_drewN ?_ _ | refine Below.alloc ?_ (by first | omega | (simp <;> omega)) _ | refine Below.setCell ?_ (by first | omega | (simp <;> omega)) _ | refine Below.trans ?_ (Below.mono (by assumption) (by first | omega | (simp <;> omega))))))
  · have HB := Lib.hid (linB_false hk)
    have HG := Lib.hid (show invLG zs = none from if_neg hk)
    clear hk
    go_enter Try.func10, Try.ntmps10
    go_wp2_with fail
    refine (impl_IsValidLinear_any _ zs _ (Rd.below H.out (show Below w.heap.size w _ from (by repeat (first | exact Below.refl _ _ | assumption | refine Below.drew ?_ | refine below_drewN ?_ _ | refine Below.alloc ?_ (by first | omega | (simp <;> omega)) _ | refine Below.setCell ?_ (by first | omega | (simp <;> omega)) _ | refine Below.trans ?_ (Below.mono (by assumption) (by first | omega | (simp <;> omega)))))) rfl) hn).mono ?_; rintro e w1 ⟨rfl, hb1⟩; rw [HB.out]
    have r0 := below_cell hb1 rfl (show ((w.alloc (.cells #[.slice A zs.length c] 26)).alloc (.cells #[.slice none 0 0] 26)).cell? ⟨w.heap.size + 1, 0, none⟩ = some (.slice none 0 0) from (by repeat (first | (refine Eq.trans (World.cell?_alloc_at _ _ _ _ ?hh) ?_; (case hh => (simp; done)); rfl) | refine cell_alloc_keep _ ?_)))
    obtain ⟨hc_hb1, hf_hb1⟩ := bcell hb1; have hz_hb1 := hb1.size; (try simp at hz_hb1); have hs0_hb1 : w.heap.size < w1.heap.size := (by omega); have hs1_hb1 : w.heap.size + 1 < w1.heap.size := (by omega)
    go_wp2_with fail
    have hZ := World.cell?_setCell_same _ _ (.slice none 0 0) r0
    exact bodyPost_ret (v := .tuple #[.agg #[.slice none 0 0], .bool false]) (by simp [results, Try.results10, go_sem, hZ]) rfl (LinPost.none HG.out (by repeat (first | exact Below.refl _ _ | assumption | refine Below.drew ?_ | refine below_drewN ?_ _ | refine Below.alloc ?_ (by first | omega | (simp <;> omega)) _ | refine Below.setCell ?_ (by first | omega | (simp <;> omega)) _ | refine Below.trans ?_ (Below.mono (by assumption) (by first | omega | (simp <;> omega))))))
end Go.Proofs.Ytfcmakabejnicab
