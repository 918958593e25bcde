/- ParitiesOf in the program and in the reference. -/
import Derived.Test.YtdgghpbcinmbhaaPar1
import Derived.BigRegion
namespace Go.Proofs.Ytdgghpbcinmbhaa
set_option linter.unusedSimpArgs false
set_option linter.unusedVariables false
set_option linter.unnecessarySimpa false
set_option maxRecDepth 200000
open Go.ChangeShapes Go.WideShapes Go.ChangeAt Go.RowKit

def ParPost (w : World) (r : Option (List Int)) (e : Ending) (w' : World) : Prop := ∃ v, e = .returned (.tuple #[v, .bool r.isSome]) ∧ OwnI w' w.heap.size v (r.getD []) ∧ Below w.heap.size w w'
theorem ParPost.none {w w' : World} {r : Option (List Int)} (hr : r = none) (hb : Below w.heap.size w w') : ParPost w r (.returned (.tuple #[.slice none 0 0, .bool false])) w' := by
  subst hr; exact ⟨_, rfl, own_nil _ _, hb⟩
theorem ParPost.some {w w' : World} {r : Option (List Int)} {v : Value} {zs : List Int} (hr : r = some zs) (ho : OwnI w' w.heap.size v zs) (hb : Below w.heap.size w w') : ParPost w r (.returned (.tuple #[v, .bool true])) w' := by
  subst hr; exact ⟨_, rfl, ho, hb⟩
noncomputable def parG (d : Circ) : Option (List Int) := if netB d = true then some (ints (parTo d.n.toNat d.gs d.gs.length).2) else none
theorem parG_len (d : Circ) : ((parG d).getD []).length ≤ 1000000 := by
  unfold parG
  split
  · next h =>
    obtain ⟨n1, n2, n3⟩ := net_n h
    have := (parTo_ok (n := d.n.toNat) (by omega) (by omega) d.gs d.gs.length).few
    simp [ints_len]; omega
  · simp
set_option maxHeartbeats 1000000 in
theorem spec_ParitiesOf_any (v : Value) (d : Circ) (w : World) (h : RdE w v E3.cs 3 d.gs) (hl : d.gs.length ≤ 1048576) :
    Calls Try.prog 41 #[.agg #[.int .i64 d.n, v]] w (ParPost w (parG d)) := by
  have H := Lib.hid h
  obtain ⟨A, c, rfl, _⟩ := h.form
  clear h
  cases hb : netB d with
  | false =>
    have HG := Lib.hid (show parG d = none from by unfold parG; rw [hb]; rfl)
    have HB := Lib.hid hb; clear hb
    go_enter Try.func41, Try.ntmps41
    go_wp2_with fail
    refine (spec_l14Network_any _ d _ (Rd.below H.out (show Below w.heap.size w _ from (by repeat (first | exact Below.refl _ _ | assumption | refine Below.drew ?_ | refine below_drewN ?_ _ | refine Below.alloc ?_ (by first | omega | (simp <;> omega)) _ | refine Below.setCell ?_ (by first | omega | (simp <;> omega)) _ | refine Below.trans ?_ (Below.mono (by assumption) (by first | omega | (simp <;> omega)))))) rfl) hl).mono ?_; rintro e w1 ⟨rfl, hb1⟩; rw [HB.out]
    go_wp2_with fail
    go_ret2
    exact ParPost.none HG.out (by repeat (first | exact Below.refl _ _ | assumption | refine Below.drew ?_ | refine below_drewN ?_ _ | refine Below.alloc ?_ (by first | omega | (simp <;> omega)) _ | refine Below.setCell ?_ (by first | omega | (simp <;> omega)) _ | refine Below.trans ?_ (Below.mono (by assumption) (by first | omega | (simp <;> omega)))))
  | true =>
    have HG := Lib.hid (show parG d = some (ints (parTo d.n.toNat d.gs d.gs.length).2) from by unfold parG; rw [hb]; rfl)
    have HB := Lib.hid hb; clear hb
    go_enter Try.func41, Try.ntmps41
    go_wp2_with fail
    refine (spec_l14Network_any _ d _ (Rd.below H.out (show Below w.heap.size w _ from (by repeat (first | exact Below.refl _ _ | assumption | refine Below.drew ?_ | refine below_drewN ?_ _ | refine Below.alloc ?_ (by first | omega | (simp <;> omega)) _ | refine Below.setCell ?_ (by first | omega | (simp <;> omega)) _ | refine Below.trans ?_ (Below.mono (by assumption) (by first | omega | (simp <;> omega)))))) rfl) hl).mono ?_; rintro e w1 ⟨rfl, hb1⟩; rw [HB.out]
    obtain ⟨hc_hb1, hf_hb1⟩ := bcell hb1; have hz_hb1 := hb1.size; (try simp at hz_hb1); have hs0_hb1 : w.heap.size < w1.heap.size := (by omega)
    go_wp2_with fail
    refine (spec_l14Parities_any _ d _ (Rd.below H.out (show Below w.heap.size w w1 from (by repeat (first | exact Below.refl _ _ | assumption | refine Below.drew ?_ | refine below_drewN ?_ _ | refine Below.alloc ?_ (by first | omega | (simp <;> omega)) _ | refine Below.setCell ?_ (by first | omega | (simp <;> omega)) _ | refine Below.trans ?_ (Below.mono (by assumption) (by first | omega | (simp <;> omega)))))) rfl) HB.out).mono ?_; rintro e w2 ⟨u, rfl, ho, hb2⟩
    have HO := Lib.hid (OwnI.le ho (base' := w.heap.size) (by omega)); clear ho
    go_wp2_with fail
    go_ret2
    exact ParPost.some HG.out HO.out (by repeat (first | exact Below.refl _ _ | assumption | refine Below.drew ?_ | refine below_drewN ?_ _ | refine Below.alloc ?_ (by first | omega | (simp <;> omega)) _ | refine Below.setCell ?_ (by first | omega | (simp <;> omega)) _ | refine Below.trans ?_ (Below.mono (by assumption) (by first | omega | (simp <;> omega)))))
theorem own_set_ne {w : World} {base sz n : Nat} {e : TypeId} {v : Value} {xs : List Value} {p : Addr} (ho : w.ownsRow base e sz v n xs) (h : ∀ g, v.ownBlock = some g → g ≠ p.block) (u : Value) : (w.setCell p u).ownsRow base e sz v n xs := by
  refine ⟨ho.1, ?_⟩
  rcases ho.2 with h0 | ⟨g, cap, cur, rfl, hb, hg, r⟩
  · exact .inl h0
  · exact .inr ⟨g, cap, cur, rfl, hb, by rw [Below.heap_setCell w p u g (h g rfl)]; exact hg, r⟩
theorem ne_step {v v2 : Value} {H gC : Nat} (hat : v2.ownBlock = v.ownBlock ∨ v2.ownBlock = some H) (h : ∀ g, v.ownBlock = some g → g ≠ gC) (hH : gC < H) : ∀ g, v2.ownBlock = some g → g ≠ gC := by
  intro g hg
  rcases hat with e | e
  · exact h g (e ▸ hg)
  · rw [e] at hg; injection hg with hg; omega
set_option maxHeartbeats 4000000 in
theorem impl_ParitiesOf_any (v : Value) (d : Circ) (w : World) (h : RdE w v E3.cs 3 d.gs) (hl : d.gs.length ≤ 1048576) :
    Calls Try.prog 42 #[.agg #[.int .i64 d.n, v]] w (ParPost w (parG d)) := by
  have H := Lib.hid h
  obtain ⟨i0, hi, hz0, hz1, hz2⟩ := info_parts info_int
  obtain ⟨A, c, rfl, Hc⟩ := gate_at h
  clear h
  cases hb : netB d with
  | false =>
    have HG := Lib.hid (show parG d = none from by unfold parG; rw [hb]; rfl)
    have HB := Lib.hid hb; clear hb
    go_enter Try.func42, Try.ntmps42
    go_wp2_with fail
    refine (impl_isNetwork_any _ d _ (Rd.below H.out (show Below w.heap.size w _ from (by repeat (first | exact Below.refl _ _ | assumption | refine Below.drew ?_ | refine below_drewN ?_ _ | refine Below.alloc ?_ (by first | omega | (simp <;> omega)) _ | refine Below.setCell ?_ (by first | omega | (simp <;> omega)) _ | refine Below.trans ?_ (Below.mono (by assumption) (by first | omega | (simp <;> omega)))))) rfl) hl).mono ?_; rintro e w1 ⟨rfl, hb1⟩; rw [HB.out]
    go_wp2_with fail
    go_ret2
    exact ParPost.none HG.out (by repeat (first | exact Below.refl _ _ | assumption | refine Below.drew ?_ | refine below_drewN ?_ _ | refine Below.alloc ?_ (by first | omega | (simp <;> omega)) _ | refine Below.setCell ?_ (by first | omega | (simp <;> omega)) _ | refine Below.trans ?_ (Below.mono (by assumption) (by first | omega | (simp <;> omega)))))
  | true =>
    have HG := Lib.hid (show parG d = some (ints (parTo d.n.toNat d.gs d.gs.length).2) from by unfold parG; rw [hb]; rfl)
    have HB := Lib.hid hb
    obtain ⟨n1, n2, hl4⟩ := net_n hb
    clear hb
    obtain ⟨m, hm⟩ : ∃ m : Nat, d.n = (m : Int) := ⟨d.n.toNat, by omega⟩
    have HM := Lib.hid hm
    rw [hm] at n1 n2
    have m1 : 1 ≤ m := by omega
    have m5 : m ≤ 5 := by omega
    have HG2 := Lib.hid (show parG d = some (ints (parTo m d.gs d.gs.length).2) from by rw [HG.out, hm, Int.toNat_natCast])
    clear hm HG
    go_enter Try.func42, Try.ntmps42
    go_wp2_with fail
    refine (impl_isNetwork_any _ d _ (Rd.below H.out (show Below w.heap.size w _ from (by repeat (first | exact Below.refl _ _ | assumption | refine Below.drew ?_ | refine below_drewN ?_ _ | refine Below.alloc ?_ (by first | omega | (simp <;> omega)) _ | refine Below.setCell ?_ (by first | omega | (simp <;> omega)) _ | refine Below.trans ?_ (Below.mono (by assumption) (by first | omega | (simp <;> omega)))))) rfl) hl).mono ?_; rintro e w1 ⟨rfl, hb1⟩; rw [HB.out]
    have k0 : w1.cell? ⟨w.heap.size, 0, none⟩ = some (.int .i64 (m : Int)) := below_cell hb1 rfl (by rw [HM.out]; exact (by repeat (first | (refine Eq.trans (World.cell?_alloc_at _ _ _ _ ?hh) ?_; (case hh => (simp; done)); rfl) | refine cell_alloc_keep _ ?_)))
    have k1 : w1.cell? ⟨w.heap.size, 1, none⟩ = some (.slice A d.gs.length c) := below_cell hb1 rfl (by repeat (first | (refine Eq.trans (World.cell?_alloc_at _ _ _ _ ?hh) ?_; (case hh => (simp; done)); rfl) | refine cell_alloc_keep _ ?_))
    have z1 := hb1.size; (try simp at z1)
    have bw1 : Below w.heap.size w w1 := (by repeat (first | exact Below.refl _ _ | assumption | refine Below.drew ?_ | refine below_drewN ?_ _ | refine Below.alloc ?_ (by first | omega | (simp <;> omega)) _ | refine Below.setCell ?_ (by first | omega | (simp <;> omega)) _ | refine Below.trans ?_ (Below.mono (by assumption) (by first | omega | (simp <;> omega)))))
    clear hb1
    go_wp2_with fail
    refine (impl_identityLinear_any (m : Int) _ (by omega) (by omega)).mono ?_; rintro e w2 ⟨v1, rfl, ho1, hb2⟩
    rw [Int.toNat_natCast, idN_ints] at ho1
    obtain ⟨g1, cap1, hv1, hg1a, hg1b⟩ := own_ints ho1 (by rw [idN_len]; omega)
    rw [idN_len] at hv1
    subst hv1
    have k2 := below_cell hb2 rfl k1
    have z2 := hb2.size
    have O1 := Lib.hid ho1; clear ho1 k0 k1
    have hfd : ∀ w : World, (Instr.field 32 (.agg #[.slice (some ⟨g1, 0, none⟩) m cap1]) 0).run Try.prog w = .ok (.slice (some ⟨g1, 0, none⟩) m cap1) w := fun _ => by kernel_rfl
    go_wp2_with fail
    refine (slices_Clone_any _ (ints (idN m)) _ O1.out.rd (by rw [ints_len, idN_len]; omega)).mono ?_; rintro e w3 ⟨v2, rfl, ho2, hb3⟩
    have k3 := below_cell hb3 rfl k2
    have z3 := hb3.size
    have R0 := Lib.hid (show OwnN w3 w.heap.size g1 m cap1 (idN m) from by have h9 := OwnI.le (OwnI.below O1.out hb3 rfl) (base' := w.heap.size) (by omega); have h8 := OwnN.of (M := idN m) (by rw [idN_len]; exact h9); rw [idN_len] at h8; exact h8)
    have AP := Lib.hid (fun g (hg : v2.ownBlock = some g) => show g ≠ g1 from by have := (ho2.lt g hg).1; omega)
    have P0 := Lib.hid (OwnI.le ho2 (base' := w.heap.size) (by omega))
    have bw := Lib.hid (below_step (below_step bw1 hb2) hb3)
    clear hb2 hb3 ho2 O1 k2 bw1
    clear hfd
    have g1s : g1 < w3.heap.size := by omega
    go_wp2_with fail
    go_loopw [5, 20] (fun o i wr => ∃ (k : Nat) (vO : Value), k ≤ d.gs.length ∧ i = .int .i64 k ∧ o = vO ∧ Hid (OwnN wr w.heap.size g1 m cap1 (parTo m d.gs k).1) ∧ Hid (OwnI wr w.heap.size vO (ints (parTo m d.gs k).2)) ∧ Hid (∀ g, vO.ownBlock = some g → g ≠ g1) ∧ Hid (Below w.heap.size w wr) ∧ g1 < wr.heap.size) (fun _ i _ => d.gs.length - (intOf i).toNat)
    case atStart => exact ⟨0, v2, Nat.zero_le _, rfl, rfl, R0, P0, AP, bw, g1s⟩
    case round =>
      obtain ⟨k, vO, hk, rfl, rfl, hR, hO, hap, hbel, hsz⟩ := hrel
      clear R0 P0 AP bw g1s k3
      have CK := parTo_ok m1 m5 d.gs k
      have hszw := hbel.out.size
      by_cases hlt : k < d.gs.length
      · obtain ⟨b0, off, rfl, hb0, t0, t1, t2⟩ := Hc.out k hlt
        obtain ⟨a, b, hg, ha, hb, hab⟩ := net_gate HB.out hlt
        rw [HM.out] at ha hb
        have hst := parTo_succ (n := m) hlt
        rw [hg] at t0 t1 t2 hst
        replace t0 := (hbel.out.cell hb0).trans t0; replace t1 := (hbel.out.cell hb0).trans t1; replace t2 := (hbel.out.cell hb0).trans t2
        obtain ⟨s, hs⟩ : ∃ s, s = parTo m d.gs k := ⟨_, rfl⟩
        rw [← hs] at CK hst hR hO
        obtain ⟨R, O⟩ := s
        obtain ⟨hlen, hsm, hsm2, hpos, hfew⟩ := CK
        dsimp only at hlen hsm hsm2 hpos hfew hR hO
        have i1 : (k : Int) < (d.gs.length : Int) := by omega
        clear hs hg
        have HST := Lib.hid hst; clear hst
        have bG := Lib.hid (show Below wr.heap.size wr (wr.alloc (.cells #[.int .i64 9, .int .i64 (a : Int), .int .i64 (b : Int)] 90)) from (by repeat (first | exact Below.refl _ _ | assumption | refine Below.drew ?_ | refine below_drewN ?_ _ | refine Below.alloc ?_ (by first | omega | (simp <;> omega)) _ | refine Below.setCell ?_ (by first | omega | (simp <;> omega)) _ | refine Below.trans ?_ (Below.mono (by assumption) (by first | omega | (simp <;> omega))))))
        have RW := Lib.hid (hR.out.below bG.out rfl)
        have OW := Lib.hid (OwnI.below hO.out bG.out rfl)
        obtain ⟨x, hx⟩ : ∃ x, x = R.getD a 0 := ⟨_, rfl⟩
        obtain ⟨y, hy⟩ : ∃ y, y = R.getD b 0 := ⟨_, rfl⟩
        have hxa := hsm.get a
        have hxb := hsm.get b
        have ca := own_int_cell RW.out a (by omega)
        have cb := own_int_cell RW.out b (by omega)
        have fb := RW.out.frz b
        rw [← hx] at ca hxa; rw [← hy] at cb hxb
        have hxo := bits_xor y x (by omega) (by omega)
        have hr : Hid (cxN R a b = R.set b (y ^^^ x)) := by show _ = _; rw [hx, hy]; rfl
        have hgetb : Hid ((cxN R a b).getD b 0 = y ^^^ x) := by show _ = _; rw [hr.out]; simp [List.getD, show b < R.length by omega]
        have j1 : (a : Int) < (m : Int) := by omega
        have j2 : (b : Int) < (m : Int) := by omega
        have j3 : (0 : Int) ≤ (a : Int) := by omega
        have j4 : (0 : Int) ≤ (b : Int) := by omega
        have hab2 : a ≠ b := hab
        have hne : g1 ≠ wr.heap.size := by omega
        have hne2 : wr.heap.size ≠ g1 := by omega
        have e1 : (wr.alloc (.cells #[.int .i64 9, .int .i64 (a : Int), .int .i64 (b : Int)] 90)).cell? ⟨wr.heap.size, 1, none⟩ = some (.int .i64 (a : Int)) := (by repeat (first | (refine Eq.trans (World.cell?_alloc_at _ _ _ _ ?hh) ?_; (case hh => (simp; done)); rfl) | refine cell_alloc_keep _ ?_))
        have e2 : (wr.alloc (.cells #[.int .i64 9, .int .i64 (a : Int), .int .i64 (b : Int)] 90)).cell? ⟨wr.heap.size, 2, none⟩ = some (.int .i64 (b : Int)) := (by repeat (first | (refine Eq.trans (World.cell?_alloc_at _ _ _ _ ?hh) ?_; (case hh => (simp; done)); rfl) | refine cell_alloc_keep _ ?_))
        have bW := Lib.hid (show Below w.heap.size w (wr.alloc (.cells #[.int .i64 9, .int .i64 (a : Int), .int .i64 (b : Int)] 90)) from hbel.out.alloc (by omega) _)
        have sW : (wr.alloc (.cells #[.int .i64 9, .int .i64 (a : Int), .int .i64 (b : Int)] 90)).heap.size = wr.heap.size + 1 := by simp
        clear hx hy hab hsm hsm2 bG hR hO hbel
        go_wp2_with fail
        generalize hW : wr.alloc (.cells #[.int .i64 9, .int .i64 (a : Int), .int .i64 (b : Int)] 90) = W at *
        have HW := Lib.hid hW; clear hW
        have SW := Lib.hid sW; clear sW
        go_region
        go_wp2_with fail
        have sW := SW.out
        have RN := Lib.hid (show OwnN ((W.setCell ⟨g1, b, none⟩ (.int .i64 ((y ^^^ x : Nat) : Int))).drew) w.heap.size g1 m cap1 (cxN R a b) from by rw [hr.out]; exact (OwnN.set RW.out b (y ^^^ x)).below (show Below (W.setCell ⟨g1, b, none⟩ (.int .i64 ((y ^^^ x : Nat) : Int))).heap.size (W.setCell ⟨g1, b, none⟩ (.int .i64 ((y ^^^ x : Nat) : Int))) (W.setCell ⟨g1, b, none⟩ (.int .i64 ((y ^^^ x : Nat) : Int))).drew from (by repeat (first | exact Below.refl _ _ | assumption | refine Below.drew ?_ | refine below_drewN ?_ _ | refine Below.alloc ?_ (by first | omega | (simp <;> omega)) _ | refine Below.setCell ?_ (by first | omega | (simp <;> omega)) _ | refine Below.trans ?_ (Below.mono (by assumption) (by first | omega | (simp <;> omega)))))) rfl)
        have ON := Lib.hid (show OwnI ((W.setCell ⟨g1, b, none⟩ (.int .i64 ((y ^^^ x : Nat) : Int))).drew) w.heap.size _ (ints O) from OwnI.below (show OwnI (W.setCell ⟨g1, b, none⟩ (.int .i64 ((y ^^^ x : Nat) : Int))) w.heap.size _ (ints O) from own_set_ne (p := ⟨g1, b, none⟩) OW.out hap.out _) (show Below (W.setCell ⟨g1, b, none⟩ (.int .i64 ((y ^^^ x : Nat) : Int))).heap.size (W.setCell ⟨g1, b, none⟩ (.int .i64 ((y ^^^ x : Nat) : Int))) (W.setCell ⟨g1, b, none⟩ (.int .i64 ((y ^^^ x : Nat) : Int))).drew from (by repeat (first | exact Below.refl _ _ | assumption | refine Below.drew ?_ | refine below_drewN ?_ _ | refine Below.alloc ?_ (by first | omega | (simp <;> omega)) _ | refine Below.setCell ?_ (by first | omega | (simp <;> omega)) _ | refine Below.trans ?_ (Below.mono (by assumption) (by first | omega | (simp <;> omega)))))) rfl)
        have bN := Lib.hid (show Below w.heap.size w ((W.setCell ⟨g1, b, none⟩ (.int .i64 ((y ^^^ x : Nat) : Int))).drew) from Below.drew (Below.setCell bW.out (by simp; omega) _))
        have sN : ((W.setCell ⟨g1, b, none⟩ (.int .i64 ((y ^^^ x : Nat) : Int))).drew).heap.size = wr.heap.size + 1 := by simp; omega
        clear sW RW OW bW
        refine (slices_Contains_any _ O (y ^^^ x) _ ON.out.rd hpos).mono ?_; rintro e w' ⟨rfl, rfl⟩
        cases hh : hasB O (y ^^^ x) with
        | true =>
          have HS1 := Lib.hid (show parTo m d.gs (k + 1) = (cxN R a b, O) from by rw [HST.out]; unfold parF; dsimp only; rw [Int.toNat_natCast, Int.toNat_natCast, hgetb.out, hh]; rfl)
          clear hh
          go_wp2_with fail
          go_roundw
          case rel => exact ⟨k + 1, _, by omega, by go_num, rfl, (show OwnN _ _ _ _ _ _ from by rw [HS1.out]; exact RN.out), (show OwnI _ _ _ _ from by rw [HS1.out]; exact ON.out), hap, bN, by rw [sN]; omega⟩
          case measure => simp [intOf]; omega
        | false =>
          have HS1 := Lib.hid (show parTo m d.gs (k + 1) = (cxN R a b, O ++ [y ^^^ x]) from by rw [HST.out]; unfold parF; dsimp only; rw [Int.toNat_natCast, Int.toNat_natCast, hgetb.out, hh]; rfl)
          clear hh
          have O5 := Lib.hid (by have h9 := ON.out; unfold OwnI at h9; rw [ints_len] at h9; exact h9)
          obtain ⟨X, hX⟩ : ∃ X, X = ((W.setCell ⟨g1, b, none⟩ (.int .i64 ((y ^^^ x : Nat) : Int))).drew) := ⟨_, rfl⟩
          rw [← hX] at RN ON bN sN O5
          have HXX := Lib.hid hX
          have xb : X.cell? ⟨g1, b, none⟩ = some (.int .i64 ((y ^^^ x : Nat) : Int)) := by
            have h9 := own_int_cell RN.out b (by rw [cxN_len]; omega)
            rw [hgetb.out] at h9; exact h9
          have xe : X.cell? ⟨wr.heap.size, 2, none⟩ = some (.int .i64 (b : Int)) := by rw [hX]; exact (World.cell?_setCell_other _ _ _ _ (fun e => hne (by injection e))).trans e2
          rw [← hX]
          have sX : wr.heap.size < X.heap.size := by omega
          clear hX ca cb fb e1 e2 sN
          have NE := Lib.hid (fun (v3 : Value) (h : v3.ownBlock = Value.ownBlock _ ∨ v3.ownBlock = some (X.alloc (.cells #[.int .i64 ((y ^^^ x : Nat) : Int)] 3)).heap.size) => ne_step h hap.out (show g1 < (X.alloc (.cells #[.int .i64 ((y ^^^ x : Nat) : Int)] 3)).heap.size by simp; omega))
          go_wp2_with (at_builtin; go_must (refine wpList_append_any _ rfl _ _ 22 rfl w.heap.size 3 i0 (.int .i64 0) 1 8 Try.underlying22 hi hz0 hz1 hz2 rfl (by decide) _ O.length _ rfl (O5.out.alloc _) (X.heap.size + 1) _ 1 1 [.int .i64 ((y ^^^ x : Nat) : Int)] rfl (one_reads X (y ^^^ x)) (one_one _) (by unfold maxLen; omega) (by omega) (by simp; omega) ?_; intro v3 w4 hown3 hg3 hat3; have s3 := hg3.size; (simp at s3); have RF := Lib.hid (show OwnN w4 w.heap.size g1 m cap1 (cxN R a b) from own_other hg3 (RN.out.alloc _) (fun g h1 h2 => by simp [Value.ownBlock] at h1; exact hap.out g h2 h1.symm)); have OF := Lib.hid hown3; have HF := Lib.hid (NE.out v3 hat3); have BF := Lib.hid (grown_below (Below.alloc bN.out (by omega) (.cells #[.int .i64 ((y ^^^ x : Nat) : Int)] 3)) (O5.out.alloc _) hg3 (Nat.le_refl _) (by simp; omega)); clear hown3 hg3 hat3))
          go_roundw
          case rel => exact ⟨k + 1, v3, by omega, by go_num, rfl, (show OwnN _ _ _ _ _ _ from by rw [HS1.out]; exact RF.out), (show OwnI _ _ _ _ from by rw [HS1.out]; have h9 := OF.out; unfold OwnI; simpa [ints] using h9), HF, BF, by omega⟩
          case measure => simp [intOf]; omega
      · have hr := Lib.hid (show parTo m d.gs k = parTo m d.gs d.gs.length from by rw [show k = d.gs.length by omega])
        go_wp2_with fail
        go_ret2
        exact ParPost.some HG2.out (by rw [← hr.out]; exact hO.out) hbel.out
end Go.Proofs.Ytdgghpbcinmbhaa
