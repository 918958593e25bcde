/- The parities that appear in a network, in the reference. -/
import Derived.Test.YtdgghpbcinmbhaaNet1
import Derived.Test.YtdgghpbcinmbhaaHas1
import Derived.Test.YtdgghpbcinmbhaaLin3
import Derived.Test.YtdgghpbcinmbhaaTwo2
namespace Go.Proofs.Ytdgghpbcinmbhaa
set_option linter.unusedSimpArgs false
set_option linter.unusedVariables false
set_option linter.unnecessarySimpa false
set_option maxRecDepth 200000
open Go.ChangeShapes Go.WideShapes Go.ChangeAt Go.RowKit

def idN (n : Nat) : List Nat := (List.range n).map fun i => 2 ^ i
theorem idN_ints (n : Nat) : idRows n = ints (idN n) := by
  unfold idRows idN ints
  rw [List.map_map]
  apply List.map_congr_left
  intro i _
  simp
theorem idN_len (n : Nat) : (idN n).length = n := by simp [idN]
theorem idN_small {n : Nat} (h : n ≤ 5) : Small (idN n) := by
  intro x hx
  obtain ⟨i, hi, rfl⟩ := List.mem_map.1 hx
  have hi2 : i < n := by simpa using hi
  have : (2 : Nat) ^ i ≤ 2 ^ 4 := Nat.pow_le_pow_right (by omega) (by omega)
  omega
def parF (s : List Nat × List Nat) (g : E3) : List Nat × List Nat :=
  (cxN s.1 g.b.toNat g.c.toNat, if hasB s.2 ((cxN s.1 g.b.toNat g.c.toNat).getD g.c.toNat 0) = true then s.2 else s.2 ++ [(cxN s.1 g.b.toNat g.c.toNat).getD g.c.toNat 0])
def parTo (n : Nat) (gs : List E3) (k : Nat) : List Nat × List Nat := (gs.take k).foldl parF (idN n, idN n)
theorem parTo_succ {n : Nat} {gs : List E3} {k : Nat} (h : k < gs.length) : parTo n gs (k + 1) = parF (parTo n gs k) (gs.getD k ⟨0, 0, 0⟩) := by
  unfold parTo
  rw [List.take_succ_eq_append_getElem h, List.foldl_append]
  simp [List.getD, h]
structure ParOk (n m : Nat) (s : List Nat × List Nat) : Prop where
  len : s.1.length = n
  small : Small s.1
  small2 : Small s.2
  pos : 0 < s.2.length
  few : s.2.length ≤ m
theorem parTo_ok {n : Nat} (h1 : 1 ≤ n) (h2 : n ≤ 5) (gs : List E3) : ∀ k, ParOk n (n + k) (parTo n gs k)
  | 0 => ⟨idN_len n, idN_small h2, idN_small h2, by show 0 < (idN n).length; rw [idN_len]; omega, by show (idN n).length ≤ _; rw [idN_len]; omega⟩
  | k + 1 => by
    have ih := parTo_ok h1 h2 gs k
    by_cases h : k < gs.length
    · rw [parTo_succ h]
      have hs := ih.small.cx (gs.getD k ⟨0, 0, 0⟩).b.toNat (gs.getD k ⟨0, 0, 0⟩).c.toNat
      refine ⟨by simp [parF, cxN_len]; exact ih.len, hs, ?_, ?_, ?_⟩
      · unfold parF; dsimp only; split
        · exact ih.small2
        · intro x hx
          rcases List.mem_append.1 hx with hx | hx
          · exact ih.small2 x hx
          · simp only [List.mem_singleton] at hx; subst hx; exact hs.get _
      · unfold parF; dsimp only; split
        · exact ih.pos
        · simp
      · unfold parF; dsimp only; have := ih.few; split
        · omega
        · simp; omega
    · have e : parTo n gs (k + 1) = parTo n gs k := by unfold parTo; rw [List.take_of_length_le (by omega), List.take_of_length_le (by omega)]
      rw [e]; exact ⟨ih.len, ih.small, ih.small2, ih.pos, by have := ih.few; omega⟩
/-- What a round of either loop needs of its gate. -/
theorem net_gate {d : Circ} (h : netB d = true) {k : Nat} (hk : k < d.gs.length) : ∃ a b : Nat, d.gs.getD k ⟨0, 0, 0⟩ = ⟨9, (a : Int), (b : Int)⟩ ∧ (a : Int) < d.n ∧ (b : Int) < d.n ∧ a ≠ b := by
  unfold netB at h
  rw [Bool.and_eq_true] at h
  have hc : CircOk d := of_decide_eq_true h.1
  have e : d.gs.getD k ⟨0, 0, 0⟩ = d.gs[k] := by simp [List.getD, hk]
  have h9 := List.all_eq_true.1 h.2 d.gs[k] (List.getElem_mem hk)
  have hg := hc.2.2 d.gs[k] (List.getElem_mem hk)
  rw [e]
  generalize d.gs[k] = g at h9 hg ⊢
  obtain ⟨x, y, z⟩ := g
  have h9' : x = 9 := by simpa using h9
  subst h9'
  unfold GateOk at hg
  dsimp only at hg
  have hg2 : 0 ≤ y ∧ y ≤ d.n - 1 ∧ 0 ≤ z ∧ z ≤ d.n - 1 ∧ y ≠ z := by omega
  obtain ⟨a, rfl⟩ := Int.eq_ofNat_of_zero_le hg2.1
  obtain ⟨b, rfl⟩ := Int.eq_ofNat_of_zero_le hg2.2.2.1
  exact ⟨a, b, rfl, by omega, by omega, fun h => hg2.2.2.2.2 (by rw [h])⟩
theorem net_n {d : Circ} (h : netB d = true) : 1 ≤ d.n ∧ d.n ≤ 5 ∧ d.gs.length ≤ 400 := by
  unfold netB at h
  rw [Bool.and_eq_true] at h
  have hc : CircOk d := of_decide_eq_true h.1
  exact ⟨hc.1.1, hc.1.2, hc.2.1⟩
theorem one_reads (w : World) (x : Nat) : Reads (w.alloc (.cells #[.int .i64 (x : Int)] 3)) (w.heap.size + 1) 1 (some ⟨w.heap.size, 0, none⟩) 1 [.int .i64 (x : Int)] :=
  ⟨rfl, fun _ => ⟨_, rfl, by simp, news_cells w [_] _⟩⟩
theorem one_one (x : Nat) : ∀ u ∈ [Value.int .i64 (x : Int)], u.oneCell' = true := fun u hu => by simp at hu; subst hu; rfl
set_option maxHeartbeats 4000000 in
theorem spec_l14Parities_any (v : Value) (d : Circ) (w : World) (h : RdE w v E3.cs 3 d.gs) (hn : netB d = true) :
    Calls Try.prog 90 #[.agg #[.int .i64 d.n, v]] w fun e w' => ∃ u, e = .returned u ∧ OwnI w' w.heap.size u (ints (parTo d.n.toNat d.gs d.gs.length).2) ∧ Below w.heap.size w w' := by
  obtain ⟨i0, hi, hz0, hz1, hz2⟩ := info_parts info_int
  obtain ⟨n1, n2, hl⟩ := net_n hn
  have HNet := Lib.hid hn
  obtain ⟨A, c, rfl, Hc⟩ := gate_at h
  clear h hn
  obtain ⟨m, hm⟩ : ∃ m : Nat, d.n = (m : Int) := ⟨d.n.toNat, by omega⟩
  have HM := Lib.hid hm
  rw [hm] at n1 n2
  rw [hm, Int.toNat_natCast]
  have m1 : 1 ≤ m := by omega
  have m5 : m ≤ 5 := by omega
  clear hm
  go_enter Try.func90, Try.ntmps90
  go_wp2_with fail
  refine (spec_l12Identity_any (m : Int) _ (by omega) (by omega)).mono ?_; rintro e w1 ⟨v1, rfl, ho1, hb1⟩
  rw [Int.toNat_natCast, idN_ints] at ho1
  obtain ⟨g1, cap1, rfl, hg1a, hg1b⟩ := own_ints ho1 (by rw [idN_len]; omega)
  rw [idN_len] at *
  have Z1 := hb1.size; (try simp at Z1)
  have O1 := Lib.hid ho1; clear ho1
  have k1 : w1.cell? ⟨w.heap.size, 1, none⟩ = some (.slice A d.gs.length c) := below_cell hb1 rfl (by repeat (first | (refine Eq.trans (World.cell?_alloc_at _ _ _ _ ?hh) ?_; (case hh => (simp; done)); rfl) | refine cell_alloc_keep _ ?_))
  go_wp2_with fail
  refine (spec_l1Own_any _ (ints (idN m)) _ (by have := (OwnI.below O1.out (show Below w1.heap.size w1 (w1.alloc (.cells #[.slice (some ⟨g1, 0, none⟩) m cap1] 32)) from (by repeat (first | exact Below.refl _ _ | assumption | refine Below.drew ?_ | refine below_drewN ?_ _ | refine Below.alloc ?_ (by first | omega | (simp <;> omega)) _ | refine Below.setCell ?_ (by first | omega | (simp <;> omega)) _ | refine Below.trans ?_ (Below.mono (by assumption) (by first | omega | (simp <;> omega)))))) rfl).rd; exact this) (by rw [ints_len, idN_len]; omega)).mono ?_; rintro e w2 ⟨v2, rfl, ho2, hb2⟩
  have Z2 := hb2.size; (try simp at Z2)
  have r0 : w2.cell? ⟨w1.heap.size, 0, none⟩ = some (.slice (some ⟨g1, 0, none⟩) m cap1) := below_cell hb2 rfl (by repeat (first | (refine Eq.trans (World.cell?_alloc_at _ _ _ _ ?hh) ?_; (case hh => (simp; done)); rfl) | refine cell_alloc_keep _ ?_))
  have f0 : w2.frozen? ⟨w1.heap.size, 0, none⟩ = false := below_frz hb2 rfl (by simp) (by repeat (first | (refine World.frozen?_alloc_at _ _ _ _ ?hh; case hh => (simp; done)) | (refine frozen_alloc_lt _ ?hh ?_; case hh => first | omega | (simp <;> omega))))
  have O2 := Lib.hid (OwnI.below (OwnI.below O1.out (show Below w1.heap.size w1 (w1.alloc (.cells #[.slice (some ⟨g1, 0, none⟩) m cap1] 32)) from (by repeat (first | exact Below.refl _ _ | assumption | refine Below.drew ?_ | refine below_drewN ?_ _ | refine Below.alloc ?_ (by first | omega | (simp <;> omega)) _ | refine Below.setCell ?_ (by first | omega | (simp <;> omega)) _ | refine Below.trans ?_ (Below.mono (by assumption) (by first | omega | (simp <;> omega)))))) rfl) hb2 rfl)
  have P2 := Lib.hid (OwnI.le ho2 (base' := w1.heap.size + 1) (by simp))
  have AP := Lib.hid (show Apart (.slice (some ⟨g1, 0, none⟩) m cap1) v2 from fun g h1 h2 => by have h3 := (ho2.lt g h2).1; simp [Value.ownBlock] at h1 h3; omega)
  have bw := Lib.hid (show Below w.heap.size w w2 from (by repeat (first | exact Below.refl _ _ | assumption | refine Below.drew ?_ | refine below_drewN ?_ _ | refine Below.alloc ?_ (by first | omega | (simp <;> omega)) _ | refine Below.setCell ?_ (by first | omega | (simp <;> omega)) _ | refine Below.trans ?_ (Below.mono (by assumption) (by first | omega | (simp <;> omega))))))
  have q1 : w2.cell? ⟨w.heap.size, 1, none⟩ = some (.slice A d.gs.length c) := below_cell hb2 rfl (cell_alloc_keep _ k1)
  clear hb1 hb2 ho2 O1 k1
  go_wp2_with fail
  go_loopw [4, 16] (fun o i wr => ∃ (k : Nat) (vR vO : Value), k ≤ d.gs.length ∧ i = .int .i64 k ∧ o = vO ∧ wr.cell? ⟨w1.heap.size, 0, none⟩ = some vR ∧ wr.frozen? ⟨w1.heap.size, 0, none⟩ = false ∧ Hid (OwnI wr w.heap.size vR (ints (parTo m d.gs k).1)) ∧ Hid (OwnI wr (w1.heap.size + 1) vO (ints (parTo m d.gs k).2)) ∧ Hid (Apart vR vO) ∧ Hid (Below w.heap.size w wr) ∧ w1.heap.size + 1 ≤ wr.heap.size) (fun _ i _ => d.gs.length - (intOf i).toNat)
  case atStart => exact ⟨0, _, v2, Nat.zero_le _, rfl, rfl, r0, f0, Lib.hid (show OwnI w2 w.heap.size (.slice (some ⟨g1, 0, none⟩) m cap1) (ints (parTo m d.gs 0).1) from OwnI.le O2.out (by simp)), P2, AP, bw, by omega⟩
  case round =>
    obtain ⟨k, vR, vO, hk, rfl, rfl, c0, cf, hR, hO, hap, hbel, hsz⟩ := hrel
    clear r0 f0 O2 P2 AP bw q1
    have CK := parTo_ok m1 m5 d.gs k
    have hszw := hbel.out.size
    by_cases hlt : k < d.gs.length
    · obtain ⟨b0, off, rfl, hb0, t0, t1, t2⟩ := Hc.out k hlt
      obtain ⟨a, b, hg, ha, hb, hab⟩ := net_gate HNet.out hlt
      rw [HM.out] at ha hb
      have hst := parTo_succ (n := m) hlt
      rw [hg] at t0 t1 t2 hst
      replace t0 := (hbel.out.cell hb0).trans t0; replace t1 := (hbel.out.cell hb0).trans t1; replace t2 := (hbel.out.cell hb0).trans t2
      obtain ⟨s, hs⟩ : ∃ s, s = parTo m d.gs k := ⟨_, rfl⟩
      rw [← hs] at CK hst hR hO
      obtain ⟨R, O⟩ := s
      obtain ⟨hlen, hsm, hsm2, hpos, hfew⟩ := CK
      dsimp only at hlen hsm hsm2 hpos hfew hR hO
      have HS := Lib.hid hsm
      have hRp : 0 < R.length := by omega
      obtain ⟨gR, capR, hvR, hgR1, hgR2⟩ := own_ints hR.out hRp
      rw [hlen] at hvR
      subst hvR
      have hax : a < R.length := by omega
      have hbx : b < R.length := by omega
      have i1 : (k : Int) < (d.gs.length : Int) := by omega
      clear hs hg hab hsm hsm2
      have HST := Lib.hid hst; clear hst
      have z0 : w1.heap.size < wr.heap.size := by omega
      have c0a := cell_alloc_keep (.cells #[.int .i64 9, .int .i64 (a : Int), .int .i64 (b : Int)] 90) c0
      go_wp2_with fail
      have hRw := Lib.hid (OwnI.below hR.out (show Below wr.heap.size wr (wr.alloc (.cells #[.int .i64 9, .int .i64 (a : Int), .int .i64 (b : Int)] 90)) from (by repeat (first | exact Below.refl _ _ | assumption | refine Below.drew ?_ | refine below_drewN ?_ _ | refine Below.alloc ?_ (by first | omega | (simp <;> omega)) _ | refine Below.setCell ?_ (by first | omega | (simp <;> omega)) _ | refine Below.trans ?_ (Below.mono (by assumption) (by first | omega | (simp <;> omega)))))) rfl)
      refine (spec_l12CX_any _ R a b _ hRw.out.rd HS.out hax hbx (by omega)).mono ?_; rintro e x1 ⟨v', rfl, ho', hx1⟩
      obtain ⟨gN, capN, hvN, hgN1, hgN2⟩ := own_ints ho' (by rw [cxN_len]; omega)
      have hcl : (cxN R a b).length = m := by rw [cxN_len]; exact hlen
      rw [hcl] at hvN
      subst hvN
      have zx := hx1.size; (try simp at zx)
      (try simp at hgN1)
      have d0 := below_cell hx1 rfl (cell_alloc_keep (.cells #[.int .i64 9, .int .i64 (a : Int), .int .i64 (b : Int)] 90) c0)
      have df := below_frz hx1 rfl (by simp; omega) (frozen_alloc_keep (.cells #[.int .i64 9, .int .i64 (a : Int), .int .i64 (b : Int)] 90) c0 cf)
      have e2 : x1.cell? ⟨wr.heap.size, 2, none⟩ = some (.int .i64 (b : Int)) := below_cell hx1 rfl (by repeat (first | (refine Eq.trans (World.cell?_alloc_at _ _ _ _ ?hh) ?_; (case hh => (simp; done)); rfl) | refine cell_alloc_keep _ ?_))
      have N1 := Lib.hid (OwnI.le ho' (base' := w1.heap.size + 1) (by simp; omega))
      have O3 := Lib.hid (OwnI.below (OwnI.below hO.out (show Below wr.heap.size wr (wr.alloc (.cells #[.int .i64 9, .int .i64 (a : Int), .int .i64 (b : Int)] 90)) from (by repeat (first | exact Below.refl _ _ | assumption | refine Below.drew ?_ | refine below_drewN ?_ _ | refine Below.alloc ?_ (by first | omega | (simp <;> omega)) _ | refine Below.setCell ?_ (by first | omega | (simp <;> omega)) _ | refine Below.trans ?_ (Below.mono (by assumption) (by first | omega | (simp <;> omega)))))) rfl) hx1 rfl)
      have hOlt := Lib.hid (fun g hg => (hO.out.lt g hg).2)
      obtain ⟨x, hx⟩ : ∃ x, x = (cxN R a b).getD b 0 := ⟨_, rfl⟩
      have cx := own_int_cell (OwnN.of (by rw [hcl]; exact ho')) b (by rw [hcl]; omega)
      rw [← hx] at cx
      have hne1 : gN ≠ w1.heap.size := by omega
      have hne2 : wr.heap.size ≠ w1.heap.size := by omega
      have bx := Lib.hid (show Below w.heap.size w x1 from Below.trans (hbel.out.alloc (by omega) _) (hx1.mono (by simp; omega)))
      have HX := Lib.hid hx
      have j1 : (0 : Int) ≤ (b : Int) := by omega
      clear hx ho' hx1 hRw hR hO c0 c0a cf t0 t1 t2 hap hbel
      go_wp2_with fail
      refine (spec_l1Has_any _ O x _ (OwnI.set O3.out (by simp) _).rd hpos).mono ?_; rintro e w' ⟨rfl, rfl⟩
      have N2 := Lib.hid (OwnI.set N1.out (show (⟨w1.heap.size, 0, none⟩ : Addr).block < w1.heap.size + 1 from by simp) (.slice (some ⟨gN, 0, none⟩) m capN))
      have O4 := Lib.hid (OwnI.set O3.out (show (⟨w1.heap.size, 0, none⟩ : Addr).block < w1.heap.size + 1 from by simp) (.slice (some ⟨gN, 0, none⟩) m capN))
      cases hh : hasB O x with
      | true =>
        have HS1 := Lib.hid (show parTo m d.gs (k + 1) = (cxN R a b, O) from by rw [HST.out]; unfold parF; dsimp only; rw [Int.toNat_natCast, Int.toNat_natCast, ← HX.out, hh]; rfl)
        clear hh
        go_wp2_with fail
        go_roundw
        case rel => exact ⟨k + 1, _, _, by omega, by go_num, rfl, World.cell?_setCell_same _ _ _ d0, by rw [World.frozen?_setCell]; exact df, (show OwnI _ _ _ _ from by rw [HS1.out]; exact OwnI.le N2.out (by omega)), (show OwnI _ _ _ _ from by rw [HS1.out]; exact O4.out), (show Apart _ _ from fun g h1 h2 => by have h3 := hOlt.out g h2; simp [Value.ownBlock] at h1; omega), (show Below _ _ _ from Below.setCell bx.out (by simp; omega) _), by simp; omega⟩
        case measure => simp [intOf]; omega
      | false =>
        have HS1 := Lib.hid (show parTo m d.gs (k + 1) = (cxN R a b, O ++ [x]) from by rw [HST.out]; unfold parF; dsimp only; rw [Int.toNat_natCast, Int.toNat_natCast, ← HX.out, hh]; rfl)
        clear hh
        have O5 := Lib.hid (by have h9 := O4.out; unfold OwnI at h9; rw [ints_len] at h9; exact h9)
        have hob := Lib.hid (fun g hg => (O4.out.lt g hg).1)
        have b3 := Lib.hid (show Below w.heap.size w (x1.setCell ⟨w1.heap.size, 0, none⟩ (.slice (some ⟨gN, 0, none⟩) m capN)) from Below.setCell bx.out (by simp; omega) _)
        have dd := World.cell?_setCell_same x1 ⟨w1.heap.size, 0, none⟩ (.slice (some ⟨gN, 0, none⟩) m capN) d0
        go_wp2_with (at_builtin; go_must (refine wpList_append_any _ rfl _ _ 22 rfl (w1.heap.size + 1) 3 i0 (.int .i64 0) 1 8 Try.underlying22 hi hz0 hz1 hz2 rfl (by decide) _ O.length _ rfl (O5.out.alloc _) (x1.heap.size + 1) _ 1 1 [.int .i64 (x : Int)] rfl (by have h9 := one_reads (x1.setCell ⟨w1.heap.size, 0, none⟩ (.slice (some ⟨gN, 0, none⟩) m capN)) x; simpa using h9) (one_one x) (by unfold maxLen; omega) (by omega) (by simp; omega) ?_; intro v3 w3 hown3 hg3 hat3; have s3 := hg3.size; (simp at s3); have F1 := Lib.hid (cell_grown hg3 (cell_alloc_keep _ dd) (fun h => by have := hob.out _ h; omega)); have F2 := Lib.hid (frz_grown hg3 (by simp; omega) (frozen_alloc_keep _ dd (by rw [World.frozen?_setCell]; exact df)) (fun h => by have := hob.out _ h; omega)); have F3 := Lib.hid (own_other hg3 (N2.out.alloc _) (fun g h1 h2 => by have h3 := hOlt.out g h2; simp [Value.ownBlock] at h1; omega)); have F4 := Lib.hid hown3; have F5 := Lib.hid (apart_new (u := .slice (some ⟨gN, 0, none⟩) m capN) (fun g h1 h2 => by have h3 := hOlt.out g h2; simp [Value.ownBlock] at h1; omega) (fun g h1 => by simp [Value.ownBlock] at h1; simp; omega) hat3); have F6 := Lib.hid (grown_below (Below.alloc b3.out (by simp; omega) (.cells #[.int .i64 (x : Int)] 3)) (O5.out.alloc _) hg3 (by omega) (by simp; omega)); clear hown3 hg3 hat3))
        go_roundw
        case rel => exact ⟨k + 1, _, v3, by omega, by go_num, rfl, F1.out, F2.out, (show OwnI _ _ _ _ from by rw [HS1.out]; exact OwnI.le F3.out (by omega)), (show OwnI _ _ _ _ from by rw [HS1.out]; have h9 := F4.out; unfold OwnI; simpa [ints] using h9), F5, F6, by omega⟩
        case measure => simp [intOf]; omega
    · have hr := Lib.hid (show parTo m d.gs k = parTo m d.gs d.gs.length from by rw [show k = d.gs.length by omega])
      go_wp2_with fail
      go_ret
      exact ⟨_, rfl, by rw [← hr.out]; exact OwnI.le hO.out (by omega), hbel.out⟩
end Go.Proofs.Ytdgghpbcinmbhaa
