/- IsParityNetwork in the program and in the reference. -/
import Derived.Test.YtdgghpbcinmbhaaPar2
import Derived.Test.YtdgghpbcinmbhaaMask1
namespace Go.Proofs.Ytdgghpbcinmbhaa
set_option linter.unusedSimpArgs false
set_option linter.unusedVariables false
set_option linter.unnecessarySimpa false
set_option maxRecDepth 200000
open Go.ChangeShapes Go.WideShapes Go.ChangeAt Go.RowKit

noncomputable def pnB (d : Circ) (zs : List Int) : Bool := netB d && masksB d.n zs
noncomputable def pnG (d : Circ) (zs : List Int) : Bool := pnB d zs && zs.all fun z => hasB (parTo d.n.toNat d.gs d.gs.length).2 z.toNat
theorem pn_1 {d : Circ} {zs : List Int} (h : netB d = false) : false = pnB d zs ∧ false = pnG d zs := by unfold pnG pnB; rw [h]; exact ⟨rfl, rfl⟩
theorem pn_2 {d : Circ} {zs : List Int} (h : masksB d.n zs = false) : false = pnB d zs ∧ false = pnG d zs := by unfold pnG pnB; rw [h, Bool.and_false]; exact ⟨rfl, rfl⟩
theorem pn_3 {d : Circ} {zs : List Int} (h1 : netB d = true) (h2 : masksB d.n zs = true) : true = pnB d zs ∧ (zs.all fun z => hasB (parTo d.n.toNat d.gs d.gs.length).2 z.toNat) = pnG d zs := by unfold pnG pnB; rw [h1, h2]; exact ⟨rfl, rfl⟩
theorem mask_nat {n : Int} {zs : List Int} (h : masksB n zs = true) {k : Nat} (hk : k < zs.length) : ∃ x : Nat, zs.getD k 0 = (x : Int) := by
  unfold masksB at h
  rw [Bool.and_eq_true] at h
  have h2 : RiseOk zs (2 ^ n.toNat - 1) := of_decide_eq_true h.2
  have h3 := h2 k hk
  unfold riseAt at h3
  rw [Bool.and_eq_true] at h3
  have h4 := of_decide_eq_true h3.1
  exact Int.eq_ofNat_of_zero_le (by omega)
theorem mask_mem {n : Int} {zs : List Int} (h : masksB n zs = true) {z : Int} (hz : z ∈ zs) : ∃ x : Nat, z = (x : Int) := by
  obtain ⟨j, hj, rfl⟩ := List.mem_iff_getElem.1 hz
  have := mask_nat h hj
  simpa [List.getD, hj] using this
theorem all_yes {O : List Nat} {zs : List Int} {k : Nat} (hk : zs.length ≤ k) (h : Hid (∀ j, j < zs.length → j < k → hasB O (zs.getD j 0).toNat = true)) : true = zs.all fun z => hasB O z.toNat := by
  symm; rw [List.all_eq_true]
  intro z hz
  obtain ⟨j, hj, rfl⟩ := List.mem_iff_getElem.1 hz
  have := h.out j hj (by omega)
  simpa [List.getD, hj] using this
theorem all_no {O : List Nat} {zs : List Int} {k : Nat} (hk : k < zs.length) (h : hasB O (zs.getD k 0).toNat = false) : false = zs.all fun z => hasB O z.toNat := by
  symm; rw [List.all_eq_false]
  refine ⟨zs[k], List.getElem_mem hk, ?_⟩
  have : zs.getD k 0 = zs[k] := by simp [List.getD, hk]
  rw [this] at h
  simp [h]
theorem ret_2b {a b c d : Bool} (h : a = b) (h2 : c = d) : Ending.returned (.tuple #[.bool a, .bool c]) = .returned (.tuple #[.bool b, .bool d]) := by rw [h, h2]
set_option maxHeartbeats 2000000 in
theorem spec_IsParityNetwork_any (v u : Value) (d : Circ) (zs : List Int) (w : World) (h : RdE w v E3.cs 3 d.gs) (hu : RdI w u zs) (hl : d.gs.length ≤ 1048576) (hm : zs.length ≤ 1048576) :
    Calls Try.prog 45 #[.agg #[.int .i64 d.n, v], u] w fun e w' => e = .returned (.tuple #[.bool (pnG d zs), .bool (pnB d zs)]) ∧ Below w.heap.size w w' := by
  have H := Lib.hid h; have HU := Lib.hid hu
  obtain ⟨A, c, rfl, _⟩ := h.form
  obtain ⟨A2, c2, rfl, Hc⟩ := int_at hu
  clear h hu
  cases hb : netB d with
  | false =>
    obtain ⟨e1, e2⟩ := pn_1 (zs := zs) hb
    have E1 := Lib.hid e1; have E2 := Lib.hid e2; have HB := Lib.hid hb; clear hb e1 e2
    go_enter Try.func45, Try.ntmps45
    go_wp2_with fail
    refine (spec_l14Network_any _ d _ (Rd.below H.out (show Below w.heap.size w _ from (by repeat (first | exact Below.refl _ _ | assumption | refine Below.drew ?_ | refine below_drewN ?_ _ | refine Below.alloc ?_ (by first | omega | (simp <;> omega)) _ | refine Below.setCell ?_ (by first | omega | (simp <;> omega)) _ | refine Below.trans ?_ (Below.mono (by assumption) (by first | omega | (simp <;> omega)))))) rfl) hl).mono ?_; rintro e w1 ⟨rfl, hb1⟩; rw [HB.out]
    go_wp2_with fail
    go_ret2
    exact ⟨ret_2b E2.out E1.out, (by repeat (first | exact Below.refl _ _ | assumption | refine Below.drew ?_ | refine below_drewN ?_ _ | refine Below.alloc ?_ (by first | omega | (simp <;> omega)) _ | refine Below.setCell ?_ (by first | omega | (simp <;> omega)) _ | refine Below.trans ?_ (Below.mono (by assumption) (by first | omega | (simp <;> omega)))))⟩
  | true =>
    cases hk : masksB d.n zs with
    | false =>
      obtain ⟨e1, e2⟩ := pn_2 (d := d) hk
      have E1 := Lib.hid e1; have E2 := Lib.hid e2; have HB := Lib.hid hb; have HK := Lib.hid hk; clear hb hk e1 e2
      go_enter Try.func45, Try.ntmps45
      go_wp2_with fail
      refine (spec_l14Network_any _ d _ (Rd.below H.out (show Below w.heap.size w _ from (by repeat (first | exact Below.refl _ _ | assumption | refine Below.drew ?_ | refine below_drewN ?_ _ | refine Below.alloc ?_ (by first | omega | (simp <;> omega)) _ | refine Below.setCell ?_ (by first | omega | (simp <;> omega)) _ | refine Below.trans ?_ (Below.mono (by assumption) (by first | omega | (simp <;> omega)))))) rfl) hl).mono ?_; rintro e w1 ⟨rfl, hb1⟩; rw [HB.out]
      obtain ⟨hc_hb1, hf_hb1⟩ := bcell hb1; have hz_hb1 := hb1.size; (try simp at hz_hb1); have hs0_hb1 : w.heap.size < w1.heap.size := (by omega)
      go_wp2_with fail
      refine (spec_l14Masks_any _ _ zs _ (Rd.below HU.out (show Below w.heap.size w w1 from (by repeat (first | exact Below.refl _ _ | assumption | refine Below.drew ?_ | refine below_drewN ?_ _ | refine Below.alloc ?_ (by first | omega | (simp <;> omega)) _ | refine Below.setCell ?_ (by first | omega | (simp <;> omega)) _ | refine Below.trans ?_ (Below.mono (by assumption) (by first | omega | (simp <;> omega)))))) rfl) hm).mono ?_; rintro e w' ⟨rfl, rfl⟩; rw [HK.out]
      go_wp2_with fail
      go_ret2
      exact ⟨ret_2b E2.out E1.out, (by repeat (first | exact Below.refl _ _ | assumption | refine Below.drew ?_ | refine below_drewN ?_ _ | refine Below.alloc ?_ (by first | omega | (simp <;> omega)) _ | refine Below.setCell ?_ (by first | omega | (simp <;> omega)) _ | refine Below.trans ?_ (Below.mono (by assumption) (by first | omega | (simp <;> omega)))))⟩
    | true =>
      obtain ⟨e1, e2⟩ := pn_3 hb hk
      have E1 := Lib.hid e1; have E2 := Lib.hid e2; have HB := Lib.hid hb; have HK := Lib.hid hk
      obtain ⟨n1, n2, _⟩ := net_n hb
      have HP := Lib.hid (parTo_ok (n := d.n.toNat) (by omega) (by omega) d.gs d.gs.length).pos
      obtain ⟨O, hO⟩ : ∃ O, O = (parTo d.n.toNat d.gs d.gs.length).2 := ⟨_, rfl⟩
      rw [← hO] at E2 HP
      have HO := Lib.hid hO
      clear hb hk e1 e2 hO
      go_enter Try.func45, Try.ntmps45
      go_wp2_with fail
      refine (spec_l14Network_any _ d _ (Rd.below H.out (show Below w.heap.size w _ from (by repeat (first | exact Below.refl _ _ | assumption | refine Below.drew ?_ | refine below_drewN ?_ _ | refine Below.alloc ?_ (by first | omega | (simp <;> omega)) _ | refine Below.setCell ?_ (by first | omega | (simp <;> omega)) _ | refine Below.trans ?_ (Below.mono (by assumption) (by first | omega | (simp <;> omega)))))) rfl) hl).mono ?_; rintro e w1 ⟨rfl, hb1⟩; rw [HB.out]
      obtain ⟨hc_hb1, hf_hb1⟩ := bcell hb1; have hz_hb1 := hb1.size; (try simp at hz_hb1); have hs0_hb1 : w.heap.size < w1.heap.size := (by omega)
      go_wp2_with fail
      refine (spec_l14Masks_any _ _ zs _ (Rd.below HU.out (show Below w.heap.size w w1 from (by repeat (first | exact Below.refl _ _ | assumption | refine Below.drew ?_ | refine below_drewN ?_ _ | refine Below.alloc ?_ (by first | omega | (simp <;> omega)) _ | refine Below.setCell ?_ (by first | omega | (simp <;> omega)) _ | refine Below.trans ?_ (Below.mono (by assumption) (by first | omega | (simp <;> omega)))))) rfl) hm).mono ?_; rintro e w' ⟨rfl, rfl⟩; rw [HK.out]
      go_wp2_with fail
      refine (spec_l14Parities_any _ d _ (Rd.below H.out (show Below w.heap.size w w1 from (by repeat (first | exact Below.refl _ _ | assumption | refine Below.drew ?_ | refine below_drewN ?_ _ | refine Below.alloc ?_ (by first | omega | (simp <;> omega)) _ | refine Below.setCell ?_ (by first | omega | (simp <;> omega)) _ | refine Below.trans ?_ (Below.mono (by assumption) (by first | omega | (simp <;> omega)))))) rfl) HB.out).mono ?_; rintro e w2 ⟨q, rfl, ho, hb2⟩
      rw [← HO.out] at ho
      have OQ := Lib.hid ho.rd
      have b2 := Lib.hid (show Below w.heap.size w w2 from (by repeat (first | exact Below.refl _ _ | assumption | refine Below.drew ?_ | refine below_drewN ?_ _ | refine Below.alloc ?_ (by first | omega | (simp <;> omega)) _ | refine Below.setCell ?_ (by first | omega | (simp <;> omega)) _ | refine Below.trans ?_ (Below.mono (by assumption) (by first | omega | (simp <;> omega))))))
      clear ho hb1 hb2 hc_hb1 hf_hb1
      go_wp2_with fail
      go_loop [23] (fun i => ∃ k : Nat, k ≤ zs.length ∧ i = .int .i64 k ∧ Hid (∀ j, j < zs.length → j < k → hasB O (zs.getD j 0).toNat = true)) (fun i => zs.length - (intOf i).toNat)
      case atStart => exact ⟨0, Nat.zero_le _, rfl, (fun j hj hk => by omega)⟩
      case round =>
        obtain ⟨k, hk, rfl, hpre⟩ := hrel
        by_cases hlt : k < zs.length
        · obtain ⟨b, off, rfl, hbb, hc⟩ := Hc.out k hlt
          obtain ⟨x, hx⟩ := mask_nat HK.out hlt
          have q0 := (b2.out.cell hbb).trans (hc k hlt)
          rw [hx] at q0
          have i1 : (k : Int) < (zs.length : Int) := by omega
          have HX := Lib.hid hx
          clear hc hx
          go_wp2_with fail
          refine (spec_l1Has_any _ O x _ OQ.out HP.out).mono ?_; rintro e w' ⟨rfl, rfl⟩
          cases hh : hasB O x with
          | true =>
            have HN : Hid (∀ j, j < zs.length → j < k + 1 → hasB O (zs.getD j 0).toNat = true) := by
              intro j hj hjk
              by_cases e : j = k
              · subst e; rw [HX.out, Int.toNat_natCast]; exact hh
              · exact hpre.out j hj (by omega)
            clear hh
            go_wp2_with fail
            go_round
            case rel => exact ⟨k + 1, by omega, by go_num, HN⟩
            case measure => simp [intOf]; omega
          | false =>
            have HN := Lib.hid (all_no (O := O) hlt (by rw [HX.out, Int.toNat_natCast]; exact hh))
            clear hh
            go_wp2_with fail
            go_ret2
            exact ⟨ret_2b (HN.out.trans E2.out) E1.out, b2.out⟩
        · go_wp2_with fail
          go_ret2
          exact ⟨ret_2b ((all_yes (by omega) hpre).trans E2.out) E1.out, b2.out⟩
theorem IsParityNetwork1_any (B : Nat) (q : Value) (O : List Nat) (n : Int) (zs : List Int) (w : World) (hB : B < w.heap.size) (hc : w.cell? ⟨B, 0, none⟩ = some q) (hq : RdI w q (ints O)) (hp : 0 < O.length) (hk : masksB n zs = true) :
    PredB 97 #[.pointer (some ⟨B, 0, none⟩)] (Value.int .i64) (fun z => !hasB O z.toNat) zs w := by
  intro W x hx hb
  obtain ⟨y, rfl⟩ := mask_mem hk hx
  have hc' := (hb.cell (p := ⟨B, 0, none⟩) hB).trans hc
  have HQ := Lib.hid (Rd.below hq hb rfl)
  obtain ⟨A, c, rfl, _⟩ := hq.form
  clear hc hb hx hq
  show Calls Try.prog 97 #[.int .i64 (y : Int), .pointer (some ⟨B, 0, none⟩)] W fun e w' => e = .returned (.bool (!hasB O y)) ∧ Below W.heap.size W w'
  go_enter Try.func97, Try.ntmps97
  go_wp2_with fail
  refine (slices_Contains_any _ O y _ HQ.out hp).mono ?_; rintro e w' ⟨rfl, rfl⟩
  go_wp2_with fail
  go_ret
  exact ⟨rfl, Below.refl _ _⟩
theorem any_not_all (O : List Nat) (zs : List Int) : (!(zs.any fun z => !hasB O z.toNat)) = zs.all fun z => hasB O z.toNat := by
  rw [List.not_any_eq_all_not]
  congr 1
  funext z
  exact Bool.not_not _
set_option maxHeartbeats 2000000 in
theorem impl_IsParityNetwork_any (v u : Value) (d : Circ) (zs : List Int) (w : World) (h : RdE w v E3.cs 3 d.gs) (hu : RdI w u zs) (hl : d.gs.length ≤ 1048576) (hm : zs.length ≤ 1048576) :
    Calls Try.prog 46 #[.agg #[.int .i64 d.n, v], u] w fun e w' => e = .returned (.tuple #[.bool (pnG d zs), .bool (pnB d zs)]) ∧ Below w.heap.size w w' := by
  have H := Lib.hid h; have HU := Lib.hid hu
  have Eg := Lib.hid (enters_of Try.func97 (by kernel_rfl) rfl)
  obtain ⟨A, c, rfl, _⟩ := h.form
  obtain ⟨A2, c2, rfl, _⟩ := hu.form
  clear h hu
  cases hb : netB d with
  | false =>
    obtain ⟨e1, e2⟩ := pn_1 (zs := zs) hb
    have HG := Lib.hid (show parG d = none from by unfold parG; rw [hb]; rfl)
    have E1 := Lib.hid e1; have E2 := Lib.hid e2; clear hb e1 e2
    go_enter Try.func46, Try.ntmps46
    go_wp2_with fail
    refine (impl_ParitiesOf_any _ d _ (Rd.below H.out (show Below w.heap.size w _ from (by repeat (first | exact Below.refl _ _ | assumption | refine Below.drew ?_ | refine below_drewN ?_ _ | refine Below.alloc ?_ (by first | omega | (simp <;> omega)) _ | refine Below.setCell ?_ (by first | omega | (simp <;> omega)) _ | refine Below.trans ?_ (Below.mono (by assumption) (by first | omega | (simp <;> omega)))))) rfl) hl).mono ?_; rw [HG.out]; rintro e w1 ⟨q, rfl, ho, hb1⟩
    obtain ⟨aq, capq, rfl⟩ := (show OwnI w1 _ q [] from ho).forms
    have zz := hb1.size; (try simp at zz)
    clear ho
    go_wp2_with fail
    go_ret2
    exact ⟨ret_2b E2.out E1.out, (by repeat (first | exact Below.refl _ _ | assumption | refine Below.drew ?_ | refine below_drewN ?_ _ | refine Below.alloc ?_ (by first | omega | (simp <;> omega)) _ | refine Below.setCell ?_ (by first | omega | (simp <;> omega)) _ | refine Below.trans ?_ (Below.mono (by assumption) (by first | omega | (simp <;> omega)))))⟩
  | true =>
    have HG := Lib.hid (show parG d = some (ints (parTo d.n.toNat d.gs d.gs.length).2) from by unfold parG; rw [hb]; rfl)
    cases hk : masksB d.n zs with
    | false =>
      obtain ⟨e1, e2⟩ := pn_2 (d := d) hk
      have E1 := Lib.hid e1; have E2 := Lib.hid e2; have HK := Lib.hid hk; clear hb hk e1 e2
      go_enter Try.func46, Try.ntmps46
      go_wp2_with fail
      refine (impl_ParitiesOf_any _ d _ (Rd.below H.out (show Below w.heap.size w _ from (by repeat (first | exact Below.refl _ _ | assumption | refine Below.drew ?_ | refine below_drewN ?_ _ | refine Below.alloc ?_ (by first | omega | (simp <;> omega)) _ | refine Below.setCell ?_ (by first | omega | (simp <;> omega)) _ | refine Below.trans ?_ (Below.mono (by assumption) (by first | omega | (simp <;> omega)))))) rfl) hl).mono ?_; rw [HG.out]; rintro e w1 ⟨q, rfl, ho, hb1⟩
      obtain ⟨aq, capq, rfl⟩ := (show OwnI w1 _ q (ints (parTo d.n.toNat d.gs d.gs.length).2) from ho).forms
      have k0 : w1.cell? ⟨w.heap.size, 0, none⟩ = some (.int .i64 d.n) := below_cell hb1 rfl (by repeat (first | (refine Eq.trans (World.cell?_alloc_at _ _ _ _ ?hh) ?_; (case hh => (simp; done)); rfl) | refine cell_alloc_keep _ ?_))
      have k0a := cell_alloc_keep (.cells #[.slice aq (ints (parTo d.n.toNat d.gs d.gs.length).2).length capq] 22) k0
      have zz := hb1.size; (try simp at zz)
      have lz : w.heap.size < w1.heap.size := by omega
      have b1 := Lib.hid (show Below w.heap.size w w1 from (by repeat (first | exact Below.refl _ _ | assumption | refine Below.drew ?_ | refine below_drewN ?_ _ | refine Below.alloc ?_ (by first | omega | (simp <;> omega)) _ | refine Below.setCell ?_ (by first | omega | (simp <;> omega)) _ | refine Below.trans ?_ (Below.mono (by assumption) (by first | omega | (simp <;> omega))))))
      clear ho hb1
      go_wp2_with fail
      refine (impl_areMasks_any _ _ zs _ (Rd.below HU.out (Below.alloc b1.out (by omega) _) rfl) hm).mono ?_; rintro e w' ⟨rfl, rfl⟩; rw [HK.out]
      go_wp2_with fail
      go_ret2
      exact ⟨ret_2b E2.out E1.out, Below.alloc b1.out (by omega) _⟩
    | true =>
      obtain ⟨e1, e2⟩ := pn_3 hb hk
      have E1 := Lib.hid e1; have E2 := Lib.hid e2; have HK := Lib.hid hk
      obtain ⟨n1, n2, _⟩ := net_n hb
      have HP := Lib.hid (parTo_ok (n := d.n.toNat) (by omega) (by omega) d.gs d.gs.length).pos
      obtain ⟨O, hO⟩ : ∃ O, O = (parTo d.n.toNat d.gs d.gs.length).2 := ⟨_, rfl⟩
      rw [← hO] at E2 HP HG
      clear hb hk e1 e2 hO
      go_enter Try.func46, Try.ntmps46
      go_wp2_with fail
      refine (impl_ParitiesOf_any _ d _ (Rd.below H.out (show Below w.heap.size w _ from (by repeat (first | exact Below.refl _ _ | assumption | refine Below.drew ?_ | refine below_drewN ?_ _ | refine Below.alloc ?_ (by first | omega | (simp <;> omega)) _ | refine Below.setCell ?_ (by first | omega | (simp <;> omega)) _ | refine Below.trans ?_ (Below.mono (by assumption) (by first | omega | (simp <;> omega)))))) rfl) hl).mono ?_; rw [HG.out]; rintro e w1 ⟨q, rfl, ho, hb1⟩
      obtain ⟨aq, capq, rfl⟩ := (show OwnI w1 _ q (ints O) from ho).forms
      have k0 : w1.cell? ⟨w.heap.size, 0, none⟩ = some (.int .i64 d.n) := below_cell hb1 rfl (by repeat (first | (refine Eq.trans (World.cell?_alloc_at _ _ _ _ ?hh) ?_; (case hh => (simp; done)); rfl) | refine cell_alloc_keep _ ?_))
      have k0a := cell_alloc_keep (.cells #[.slice aq (ints O).length capq] 22) k0
      have zz := hb1.size; (try simp at zz)
      have lz : w.heap.size < w1.heap.size := by omega
      have b1 := Lib.hid (show Below w.heap.size w w1 from (by repeat (first | exact Below.refl _ _ | assumption | refine Below.drew ?_ | refine below_drewN ?_ _ | refine Below.alloc ?_ (by first | omega | (simp <;> omega)) _ | refine Below.setCell ?_ (by first | omega | (simp <;> omega)) _ | refine Below.trans ?_ (Below.mono (by assumption) (by first | omega | (simp <;> omega))))))
      have OQ := Lib.hid (show RdI (w1.alloc (.cells #[.slice aq (ints O).length capq] 22)) (.slice aq (ints O).length capq) (ints O) from Rd.below (OwnI.rd ho) (show Below w1.heap.size w1 (w1.alloc (.cells #[.slice aq (ints O).length capq] 22)) from (by repeat (first | exact Below.refl _ _ | assumption | refine Below.drew ?_ | refine below_drewN ?_ _ | refine Below.alloc ?_ (by first | omega | (simp <;> omega)) _ | refine Below.setCell ?_ (by first | omega | (simp <;> omega)) _ | refine Below.trans ?_ (Below.mono (by assumption) (by first | omega | (simp <;> omega)))))) rfl)
      clear ho hb1
      go_wp2_with fail
      refine (impl_areMasks_any _ _ zs _ (Rd.below HU.out (Below.alloc b1.out (by omega) _) rfl) hm).mono ?_; rintro e w' ⟨rfl, rfl⟩; rw [HK.out]
      go_wp2_with fail
      refine (slices_ContainsFunc_ints _ _ (fun z => !hasB O z.toNat) Eg.out _ zs _ (Rd.below HU.out (Below.alloc b1.out (by omega) _) rfl) (IsParityNetwork1_any w1.heap.size (.slice aq (ints O).length capq) O d.n zs _ (by simp) (by repeat (first | (refine Eq.trans (World.cell?_alloc_at _ _ _ _ ?hh) ?_; (case hh => (simp; done)); rfl) | refine cell_alloc_keep _ ?_)) OQ.out HP.out HK.out)).mono ?_; rintro e w2 ⟨rfl, hb2⟩
      go_wp2_with fail
      go_ret2
      exact ⟨ret_2b ((any_not_all O zs).trans E2.out) E1.out, Below.trans (Below.alloc b1.out (by omega) _) (hb2.mono (by simp; omega))⟩
end Go.Proofs.Ytdgghpbcinmbhaa
