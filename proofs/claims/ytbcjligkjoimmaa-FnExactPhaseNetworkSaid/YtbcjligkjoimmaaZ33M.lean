/- PlaceRotations in the program. -/
import Derived.Test.YtbcjligkjoimmaaZ30Pl1
import Derived.Test.YtbcjligkjoimmaaZ31Syns
import Derived.Test.YtbcjligkjoimmaaZ32M
import Derived.BigRegion
import Derived.BigQuiet
import Derived.Test.YtbcjligkjoimmaaZ29Brk
namespace Go.Proofs.Ytbcjligkjoimmaa
set_option linter.unusedSimpArgs false
set_option linter.unusedVariables false
set_option linter.unnecessarySimpa false
set_option maxRecDepth 200000
open Go.ChangeShapes Go.WideShapes Go.ChangeAt Go.RowKit

/-- What the program's rounds keep. -/
structure ImB (ts : List E2) (m : Nat) (s : List E2 × List E3) : Prop where
  sub : ∀ t ∈ s.1, t ∈ ts
  len : s.1.length ≤ ts.length
  few : s.2.length ≤ m
theorem imP_ok {ts : List E2} {m : Nat} {s : List E2 × List E3} (R : List Nat) (q : Nat) (h : ImB ts m s) : ImB ts (m + 2) (imP R s q) := by
  unfold imP
  split
  · refine ⟨fun t ht => h.sub t (List.mem_of_mem_eraseIdx ht), Nat.le_trans (List.length_eraseIdx_le _ _) h.len, ?_⟩
    have := h.few
    have h2 := rotF_len (q : Int) ((s.1.getD (by assumption) ⟨0, 0⟩).b)
    rw [List.length_append]; omega
  · exact ⟨h.sub, h.len, by have := h.few; omega⟩
theorem im0_ok (n : Nat) (ts : List E2) : ∀ k, ImB ts (2 * k) (im0 n ts k)
  | 0 => ⟨fun t ht => ht, Nat.le_refl _, Nat.le_refl _⟩
  | k + 1 => by rw [im0_succ]; exact imP_ok _ _ (im0_ok n ts k)
theorem imTo_ok (n : Nat) (gs : List E3) (ts : List E2) : ∀ k, k ≤ gs.length → ImB ts (2 * n + 3 * k) (imTo n gs ts k).2
  | 0, _ => im0_ok n ts n
  | k + 1, hk => by
    have ih := imTo_ok n gs ts k (by omega)
    rw [imTo_succ (by omega)]
    have := imP_ok (m := 2 * n + 3 * k + 1) (ts := ts) (cxN (imTo n gs ts k).1 (gs.getD k ⟨0, 0, 0⟩).b.toNat (gs.getD k ⟨0, 0, 0⟩).c.toNat) (s := ((imTo n gs ts k).2.1, (imTo n gs ts k).2.2 ++ [gs.getD k ⟨0, 0, 0⟩])) (gs.getD k ⟨0, 0, 0⟩).c.toNat ⟨ih.sub, ih.len, by simp; exact ih.few⟩
    exact this
theorem imTo_row {n : Nat} (hn : n ≤ 5) (gs : List E3) (ts : List E2) : ∀ k, k ≤ gs.length → (imTo n gs ts k).1.length = n ∧ Small (imTo n gs ts k).1
  | 0, _ => ⟨idN_len n, idN_small hn⟩
  | k + 1, hk => by
    obtain ⟨h1, h2⟩ := imTo_row hn gs ts k (by omega)
    rw [imTo_succ (by omega)]
    exact ⟨by simp [imN, cxN_len]; exact h1, h2.cx _ _⟩
theorem term_b {n : Int} {ts : List E2} (h : TermsOk n ts) : ∀ t ∈ ts, 0 ≤ t.b ∧ t.b ≤ 7 := by
  intro t ht
  obtain ⟨k, hk, rfl⟩ := List.getElem_of_mem ht
  have h1 := (term_ok h hk).2.2
  have e : ts.getD k ⟨0, 0⟩ = ts[k] := by simp [List.getD, hk]
  rw [e] at h1
  omega
theorem PSt.mid {B bL bR bO n gR capR : Nat} {W0 w : World} {vL vO : Value} {R : List Nat} {L : List E2} {O : List E3} (h : PSt B bL bR bO n gR capR W0 w vL vO R L O) (b x : Nat) :
    PSt B bL bR bO n gR capR W0 ((w.setCell ⟨gR, b, none⟩ (.int .i64 (x : Int))).drew) vL vO (R.set b x) L O := by
  have hR := h.rows.lt
  have bb : Below (w.setCell ⟨gR, b, none⟩ (.int .i64 (x : Int))).heap.size (w.setCell ⟨gR, b, none⟩ (.int .i64 (x : Int))) (w.setCell ⟨gR, b, none⟩ (.int .i64 (x : Int))).drew := (by repeat (first | exact Below.refl _ _ | assumption | refine Below.drew ?_ | refine below_drewN ?_ _ | refine Below.alloc ?_ (by first | omega | (simp <;> omega)) _ | refine Below.setCell ?_ (by first | omega | (simp <;> omega)) _ | refine Below.trans ?_ (Below.mono (by assumption) (by first | omega | (simp <;> omega)))))
  refine ⟨cell_set_far (Ne.symm h.nR.2.1) h.cR, cell_set_far (Ne.symm h.nR.1) h.cL, by show (w.setCell _ _).frozen? _ = false; rw [World.frozen?_setCell]; exact h.fL, cell_set_far (Ne.symm h.nR.2.2) h.cO, by show (w.setCell _ _).frozen? _ = false; rw [World.frozen?_setCell]; exact h.fO, ?_, ?_, ?_, h.apL, h.apO, h.apLO, h.nR, h.nn, h.BL, h.BO, Below.drew (Below.setCell h.bel hR.1 _)⟩
  · exact (h.rows.set b x).below bb rfl
  · exact own_below (own_set_ne (p := ⟨gR, b, none⟩) h.left (fun g' hg' => (h.apL g' hg').1) _) bb rfl
  · exact own_below (own_set_ne (p := ⟨gR, b, none⟩) h.out (fun g' hg' => (h.apO g' hg').1) _) bb rfl
theorem ret_sb {v : Value} {a b : Bool} (h : a = b) : Ending.returned (.tuple #[v, .bool a]) = .returned (.tuple #[v, .bool b]) := by rw [h]
theorem plG_len (d : Circ) (ts : List E2) : ((plG d ts).getD Circ.zero).gs.length ≤ 1000000 := by
  unfold plG; split
  · next h => simp; omega
  · simp [Circ.zero]
set_option maxHeartbeats 16000000 in
theorem impl_placed_any (n : Nat) (v u : Value) (d : Circ) (ts : List E2) (w : World) (h : RdE w v E3.cs 3 d.gs) (k : RdE w u E2.cs 2 ts) (hnet : netB d = true) (hn : d.n = (n : Int)) (ht : TermsOk d.n ts) :
    Calls Try.prog 30 #[.int .i64 (n : Int), v, u] w fun e w' => ∃ vO, e = .returned (.tuple #[vO, .bool (decide ((plEnd n d.gs ts).1.length = ts.length))]) ∧ OwnE w' w.heap.size 58 vO E3.cs 3 (plEnd n d.gs ts).2 ∧ Below w.heap.size w w' := by
  obtain ⟨i0, hi, hz0, hz1, hz2⟩ := info_parts info_gate
  have hmf : ∀ (fn : Fn) (first cap : Array Value) (w : World), (Instr.makeFunc fn first cap).run Try.prog w = .ok (.func fn first cap) w := fun _ _ _ _ => rfl
  have hnn := net_n hnet
  have hfew := terms_few (show 1 ≤ d.n ∧ d.n ≤ 5 from ⟨hnn.1, hnn.2.1⟩) ht
  have n1 : 1 ≤ n := by omega
  have n5 : n ≤ 5 := by omega
  have HE := Lib.hid (im_end ht hnet hn)
  have HT := Lib.hid (term_b ht)
  have HB := Lib.hid hnet
  have HN := Lib.hid hn
  have hgl : d.gs.length ≤ 400 := hnn.2.2
  obtain ⟨A, c, rfl, Hc⟩ := gate_at h
  have K := Lib.hid k
  obtain ⟨A2, c2, rfl, _⟩ := k.form
  clear h k hnet hn ht hnn
  go_enter Try.func30, Try.ntmps30
  go_wp2_with fail
  refine (impl_identityLinear_any (n : Int) _ (by omega) (by omega)).mono ?_; rintro e w1 ⟨v1, rfl, ho1, hb1⟩
  rw [Int.toNat_natCast, idN_ints] at ho1
  obtain ⟨gR, capR, hv1, hg1a, hg1b⟩ := own_ints ho1 (by rw [idN_len]; omega)
  rw [idN_len] at hv1
  subst hv1
  have z1 := hb1.size
  have O1 := Lib.hid ho1
  have bw1 := Lib.hid (show Below w.heap.size w w1 from hb1)
  clear hb1 ho1
  have hfd : ∀ w : World, (Instr.field 35 (.agg #[.slice (some ⟨gR, 0, none⟩) n capR]) 0).run Try.prog w = .ok (.slice (some ⟨gR, 0, none⟩) n capR) w := fun _ => by kernel_rfl
  go_wp2_with fail
  refine (slices_Clone_Term _ ts _ (Rd.below K.out bw1.out rfl) (by omega)).mono ?_; rintro e w2 ⟨vL, rfl, ho2, hb2⟩
  obtain ⟨aL, cL, rfl⟩ := ho2.forms
  have z2 := hb2.size
  have R0 := Lib.hid (show OwnN w2 w.heap.size gR n capR (idN n) from by have h9 := OwnI.below O1.out hb2 rfl; have h8 := OwnN.of (M := idN n) (by rw [idN_len]; exact h9); rw [idN_len] at h8; exact h8)
  have apL0 := Lib.hid (fun g (hg : (Value.slice aL ts.length cL).ownBlock = some g) => show w1.heap.size ≤ g ∧ g < w2.heap.size from ho2.lt g hg)
  have L0 := Lib.hid (OwnE.le ho2 (base' := w.heap.size) (by omega))
  have bw2 := Lib.hid (show Below w.heap.size w w2 from Below.trans bw1.out (hb2.mono (by omega)))
  clear hb2 ho2 O1 bw1
  go_wp2_with fail
  have S0 : Hid (PSt w.heap.size (w2.heap.size + 1 + 1) (w2.heap.size + 1) (w2.heap.size + 1 + 1 + 1) n gR capR w ((((w2.alloc (.cells #[] 58)).alloc (.cells #[.slice (some ⟨gR, 0, none⟩) n capR] 23)).alloc (.cells #[.slice aL ts.length cL] 34)).alloc (.cells #[.slice (some ⟨w2.heap.size, 0, none⟩) 0 0] 29)) (.slice aL ts.length cL) (.slice (some ⟨w2.heap.size, 0, none⟩) 0 0) (idN n) ts []) := by
    have b1 : Below w2.heap.size w2 ((((w2.alloc (.cells #[] 58)).alloc (.cells #[.slice (some ⟨gR, 0, none⟩) n capR] 23)).alloc (.cells #[.slice aL ts.length cL] 34)).alloc (.cells #[.slice (some ⟨w2.heap.size, 0, none⟩) 0 0] 29)) := (by repeat (first | exact Below.refl _ _ | assumption | refine Below.drew ?_ | refine below_drewN ?_ _ | refine Below.alloc ?_ (by first | omega | (simp <;> omega)) _ | refine Below.setCell ?_ (by first | omega | (simp <;> omega)) _ | refine Below.trans ?_ (Below.mono (by assumption) (by first | omega | (simp <;> omega)))))
    have o1 := own_lit0 (f := E3.cs) (sz := 3) w2 w.heap.size 58 w2.heap.size rfl (by omega)
    have b2 : Below (w2.alloc (.cells #[] 58)).heap.size (w2.alloc (.cells #[] 58)) ((((w2.alloc (.cells #[] 58)).alloc (.cells #[.slice (some ⟨gR, 0, none⟩) n capR] 23)).alloc (.cells #[.slice aL ts.length cL] 34)).alloc (.cells #[.slice (some ⟨w2.heap.size, 0, none⟩) 0 0] 29)) := (by repeat (first | exact Below.refl _ _ | assumption | refine Below.drew ?_ | refine below_drewN ?_ _ | refine Below.alloc ?_ (by first | omega | (simp <;> omega)) _ | refine Below.setCell ?_ (by first | omega | (simp <;> omega)) _ | refine Below.trans ?_ (Below.mono (by assumption) (by first | omega | (simp <;> omega)))))
    have eO : ∀ g', (Value.slice (some ⟨w2.heap.size, 0, none⟩) 0 0).ownBlock = some g' → g' = w2.heap.size := by
      intro g' hg'
      have h8 : w2.heap.size = g' := by simpa [Value.ownBlock] using hg'
      exact h8.symm
    exact (show PSt _ _ _ _ _ _ _ _ _ _ _ _ _ _ from ⟨(by repeat (first | (refine Eq.trans (World.cell?_alloc_at _ _ _ _ ?hh) ?_; (case hh => (simp; done)); rfl) | refine cell_alloc_keep _ ?_)), (by repeat (first | (refine Eq.trans (World.cell?_alloc_at _ _ _ _ ?hh) ?_; (case hh => (simp; done)); rfl) | refine cell_alloc_keep _ ?_)), (by repeat (first | (refine World.frozen?_alloc_at _ _ _ _ ?hh; case hh => (simp; done)) | (refine frozen_alloc_lt _ ?hh ?_; case hh => first | omega | (simp <;> omega)))), (by repeat (first | (refine Eq.trans (World.cell?_alloc_at _ _ _ _ ?hh) ?_; (case hh => (simp; done)); rfl) | refine cell_alloc_keep _ ?_)), (by repeat (first | (refine World.frozen?_alloc_at _ _ _ _ ?hh; case hh => (simp; done)) | (refine frozen_alloc_lt _ ?hh ?_; case hh => first | omega | (simp <;> omega)))), R0.out.below b1 rfl, own_below L0.out b1 rfl, own_below (show (w2.alloc (.cells #[] 58)).ownsRow w.heap.size 58 3 (.slice (some ⟨w2.heap.size, 0, none⟩) 0 0) 0 [] from o1) b2 rfl, fun g' hg' => by have := apL0.out g' hg'; omega, fun g' hg' => by have := eO g' hg'; omega, fun g' hg' e2 => by have h7 := apL0.out g' hg'; have := eO g' e2; omega, by omega, by omega, by omega, by omega, Below.trans bw2.out (b1.mono (by omega))⟩)
  clear R0 L0 apL0 bw2
  go_loopw [23] (fun i wr => ∃ (k : Nat) (vL vO : Value), k ≤ n ∧ i = .int .i64 k ∧ Hid (PSt w.heap.size (w2.heap.size + 1 + 1) (w2.heap.size + 1) (w2.heap.size + 1 + 1 + 1) n gR capR w wr vL vO (idN n) (im0 n ts k).1 (im0 n ts k).2)) (fun i _ => n - (intOf i).toNat)
  case atStart => exact ⟨0, _, _, Nat.zero_le _, rfl, S0⟩
  case round =>
    obtain ⟨k, vL, vO, hk, rfl, hS⟩ := hrel
    clear S0
    obtain ⟨wo, rfl⟩ : ∃ wo : World, wo = wr := ⟨_, rfl⟩
    by_cases hlt : k < n
    · have i1 : (k : Int) < (n : Int) := by omega
      have hB := im0_ok n ts k
      have hs := im0_succ n ts k
      have HS := Lib.hid hs; clear hs
      obtain ⟨s, hs⟩ : ∃ s, s = im0 n ts k := ⟨_, rfl⟩
      rw [← hs] at hB hS HS
      clear hs
      obtain ⟨L, O⟩ := s
      dsimp only at hS
      have q1 := hB.len; have q2 := hB.few
      dsimp only at q1 q2
      have q3 : ∀ t ∈ L, 0 ≤ t.b ∧ t.b ≤ 7 := fun t ht => HT.out t (hB.sub t ht)
      have Q3 := Lib.hid q3
      clear hB q3
      go_wp2_with fail
      refine (placed1_any k _ hS.out hlt (by omega) (by omega) Q3.out).mono ?_; rintro e x1 ⟨rfl, vL', vO', hS'⟩
      have S1 := Lib.hid hS'; clear hS' hS
      rw [← HS.out] at S1
      go_wp2_with fail
      go_roundw
      case rel => exact ⟨k + 1, vL', vO', by omega, by go_num, S1⟩
      case measure => simp [intOf]; omega
    · have e1 : k = n := by omega
      subst e1
      have i1 : ¬ (k : Int) < (k : Int) := by omega
      go_wp2_with fail
      go_loopw [32] (fun i wr => ∃ (j : Nat) (vL vO : Value), j ≤ d.gs.length ∧ i = .int .i64 j ∧ Hid (PSt w.heap.size (w2.heap.size + 1 + 1) (w2.heap.size + 1) (w2.heap.size + 1 + 1 + 1) k gR capR w wr vL vO (imTo k d.gs ts j).1 (imTo k d.gs ts j).2.1 (imTo k d.gs ts j).2.2)) (fun i _ => d.gs.length - (intOf i).toNat)
      case atStart => exact ⟨0, _, _, Nat.zero_le _, rfl, hS⟩
      case round =>
        clear hS
        obtain ⟨j, vL, vO, hj, rfl, hS⟩ := hrel
        by_cases hlt2 : j < d.gs.length
        · obtain ⟨b0, off, rfl, hb0, t0, t1, t2⟩ := Hc.out j hlt2
          obtain ⟨a, b, hg, ha, hb, hab⟩ := net_gate HB.out hlt2
          rw [HN.out] at ha hb
          have hst := imTo_succ (n := k) (ts := ts) hlt2
          rw [hg] at t0 t1 t2 hst
          have hbel := hS.out.bel
          replace t0 := (hbel.cell hb0).trans t0; replace t1 := (hbel.cell hb0).trans t1; replace t2 := (hbel.cell hb0).trans t2
          obtain ⟨hlen, hsm⟩ := imTo_row n5 d.gs ts j hj
          have hB := imTo_ok k d.gs ts j hj
          obtain ⟨s, hs⟩ : ∃ s, s = imTo k d.gs ts j := ⟨_, rfl⟩
          rw [← hs] at hB hS hst hlen hsm
          clear hs hg hbel
          obtain ⟨R, L, O⟩ := s
          dsimp only at hS hlen hsm hB
          have q1 := hB.len; have q2 := hB.few
          dsimp only at q1 q2
          have Q3 := Lib.hid (fun t (ht : t ∈ L) => HT.out t (hB.sub t ht))
          have HST := Lib.hid hst; clear hst hB
          have i2 : (j : Int) < (d.gs.length : Int) := by omega
          have SW := Lib.hid (hS.out.call (show Below wr.heap.size wr (wr.alloc (.cells #[.int .i64 9, .int .i64 (a : Int), .int .i64 (b : Int)] 58)) from (by repeat (first | exact Below.refl _ _ | assumption | refine Below.drew ?_ | refine below_drewN ?_ _ | refine Below.alloc ?_ (by first | omega | (simp <;> omega)) _ | refine Below.setCell ?_ (by first | omega | (simp <;> omega)) _ | refine Below.trans ?_ (Below.mono (by assumption) (by first | omega | (simp <;> omega)))))))
          obtain ⟨x, hx⟩ : ∃ x, x = R.getD a 0 := ⟨_, rfl⟩
          obtain ⟨y, hy⟩ : ∃ y, y = R.getD b 0 := ⟨_, rfl⟩
          have hxa := hsm.get a
          have hxb := hsm.get b
          have cR := SW.out.cR
          have ca := own_int_cell SW.out.rows a (by omega)
          have cb := own_int_cell SW.out.rows b (by omega)
          have fb := SW.out.rows.frz b
          rw [← hx] at ca hxa; rw [← hy] at cb hxb
          have hxo := bits_xor y x (by omega) (by omega)
          have hr : Hid (cxN R a b = R.set b (y ^^^ x)) := by show _ = _; rw [hx, hy]; rfl
          have j1 : (a : Int) < (k : Int) := by omega
          have j2 : (b : Int) < (k : Int) := by omega
          have j3 : (0 : Int) ≤ (a : Int) := by omega
          have j4 : (0 : Int) ≤ (b : Int) := by omega
          have e0 : (wr.alloc (.cells #[.int .i64 9, .int .i64 (a : Int), .int .i64 (b : Int)] 58)).cell? ⟨wr.heap.size, 0, none⟩ = some (.int .i64 9) := (by repeat (first | (refine Eq.trans (World.cell?_alloc_at _ _ _ _ ?hh) ?_; (case hh => (simp; done)); rfl) | refine cell_alloc_keep _ ?_))
          have e1 : (wr.alloc (.cells #[.int .i64 9, .int .i64 (a : Int), .int .i64 (b : Int)] 58)).cell? ⟨wr.heap.size, 1, none⟩ = some (.int .i64 (a : Int)) := (by repeat (first | (refine Eq.trans (World.cell?_alloc_at _ _ _ _ ?hh) ?_; (case hh => (simp; done)); rfl) | refine cell_alloc_keep _ ?_))
          have e2 : (wr.alloc (.cells #[.int .i64 9, .int .i64 (a : Int), .int .i64 (b : Int)] 58)).cell? ⟨wr.heap.size, 2, none⟩ = some (.int .i64 (b : Int)) := (by repeat (first | (refine Eq.trans (World.cell?_alloc_at _ _ _ _ ?hh) ?_; (case hh => (simp; done)); rfl) | refine cell_alloc_keep _ ?_))
          have LT := Lib.hid hS.out.lt
          have VO := Lib.hid (fun g (hg : vO.ownBlock = some g) => show g < wr.heap.size from (World.ownsRow.lt hS.out.out g hg).2)
          have SM := Lib.hid (SW.out.mid b (y ^^^ x))
          have hne : gR ≠ wr.heap.size := by have := LT.out; omega
          have hnb : w2.heap.size + 1 + 1 + 1 < wr.heap.size := LT.out.2.2.1
          have sW : Hid ((wr.alloc (.cells #[.int .i64 9, .int .i64 (a : Int), .int .i64 (b : Int)] 58)).heap.size = wr.heap.size + 1) := (show _ = _ by simp)
          clear hx hy hab hsm hS SW
          go_wp2_with fail
          generalize hW : wr.alloc (.cells #[.int .i64 9, .int .i64 (a : Int), .int .i64 (b : Int)] 58) = W at *
          clear hW
          go_region
          have x0 : (W.setCell ⟨gR, b, none⟩ (.int .i64 ((y ^^^ x : Nat) : Int))).drew.cell? ⟨wr.heap.size, 0, none⟩ = some (.int .i64 9) := cell_set_far (Ne.symm hne) e0
          have x1 : (W.setCell ⟨gR, b, none⟩ (.int .i64 ((y ^^^ x : Nat) : Int))).drew.cell? ⟨wr.heap.size, 1, none⟩ = some (.int .i64 (a : Int)) := cell_set_far (Ne.symm hne) e1
          have x2 : (W.setCell ⟨gR, b, none⟩ (.int .i64 ((y ^^^ x : Nat) : Int))).drew.cell? ⟨wr.heap.size, 2, none⟩ = some (.int .i64 (b : Int)) := cell_set_far (Ne.symm hne) e2
          have sX : wr.heap.size < (W.setCell ⟨gR, b, none⟩ (.int .i64 ((y ^^^ x : Nat) : Int))).drew.heap.size := by have := sW.out; simp; omega
          clear cR ca cb fb hxo e0 e1 e2 sW
          generalize (W.setCell ⟨gR, b, none⟩ (.int .i64 ((y ^^^ x : Nat) : Int))).drew = X at *
          have xO := SM.out.cO
          have xfO := SM.out.fO
          obtain ⟨aO, cO, rfl⟩ := own_form SM.out.out
          have SX := Lib.hid (SM.out.call (show Below X.heap.size X (X.alloc (.cells #[.int .i64 9, .int .i64 (a : Int), .int .i64 (b : Int)] 58)) from (by repeat (first | exact Below.refl _ _ | assumption | refine Below.drew ?_ | refine below_drewN ?_ _ | refine Below.alloc ?_ (by first | omega | (simp <;> omega)) _ | refine Below.setCell ?_ (by first | omega | (simp <;> omega)) _ | refine Below.trans ?_ (Below.mono (by assumption) (by first | omega | (simp <;> omega)))))))
          have y2 := cell_alloc_keep (.cells #[.int .i64 9, .int .i64 (a : Int), .int .i64 (b : Int)] 58) x2
          clear SM
          go_wp2_with (at_builtin; go_must (refine wpList_append_any _ rfl _ _ 29 rfl w.heap.size 58 i0 (.agg #[.int .i64 0, .int .i64 0, .int .i64 0]) 3 24 Try.underlying29 hi hz0 hz1 hz2 rfl (by decide) _ O.length _ rfl SX.out.out (X.heap.size + 1) _ 1 1 (E3.cs ⟨9, (a : Int), (b : Int)⟩) rfl (by have := reads_news X (E3.cs ⟨9, (a : Int), (b : Int)⟩) 58 3 1 rfl; simpa [E3.cs] using this) (E3.one _) (by unfold maxLen; omega) (by omega) SX.out.lt.2.2.2.2 ?_; intro v3 w4 hown3 hg3 hat3; obtain ⟨a3, c3', rfl⟩ := own_form hown3; obtain ⟨d4, e4, l4, hST⟩ := PSt.appO (rot := [⟨9, (a : Int), (b : Int)⟩]) SX.out rfl (by simpa using hown3) hg3 hat3; have S4 := Lib.hid hST; have y4 := cell_set_far (b := wr.heap.size) (nb := w2.heap.size + 1 + 1 + 1) (o2 := 0) (v := .slice a3 (O.length + 1) c3') (by omega) (cell_grown hg3 y2 (fun e => by have := VO.out _ e; omega)); clear hST hown3 hg3 hat3 xO xfO x0 x1 x2 y2 l4))
          refine (placed1_any b _ S4.out (by omega) (by omega) (by simp; omega) Q3.out).mono ?_; rintro e z1 ⟨rfl, vL', vO', hS'⟩
          have S5 := Lib.hid (show PSt _ _ _ _ _ _ _ _ z1 vL' vO' (imTo k d.gs ts (j + 1)).1 (imTo k d.gs ts (j + 1)).2.1 (imTo k d.gs ts (j + 1)).2.2 from by
            rw [HST.out]; unfold imN; dsimp only; rw [Int.toNat_natCast, Int.toNat_natCast, hr.out]; exact hS')
          clear hS' S4 y4
          go_wp2_with fail
          go_roundw
          case rel => exact ⟨j + 1, vL', vO', by omega, by go_num, S5⟩
          case measure => simp [intOf]; omega
        · have e2 : j = d.gs.length := by omega
          subst e2
          have i2 : ¬ (d.gs.length : Int) < (d.gs.length : Int) := by omega
          obtain ⟨E1, E2', _⟩ := HE.out
          obtain ⟨aO, cO, rfl⟩ := own_form hS.out.out
          obtain ⟨aL2, cL2, rfl⟩ := own_form hS.out.left
          have k0 := hS.out.cO
          have k1 := hS.out.cL
          have HR := Lib.hid (show (((imTo k d.gs ts d.gs.length).2.1.length : Int) == 0) = decide ((plEnd k d.gs ts).1.length = ts.length) from by
            rw [Bool.eq_iff_iff]; simp only [beq_iff_eq, decide_eq_true_eq]; rw [← E2']; omega)
          have HO := Lib.hid (show OwnE wr w.heap.size 58 (.slice aO (imTo k d.gs ts d.gs.length).2.2.length cO) E3.cs 3 (plEnd k d.gs ts).2 from by rw [← E1]; exact hS.out.out)
          have bq := hS.out.bel
          clear E1 E2' hS
          go_wp2_with fail
          go_quiet (fail)
          go_wp2_with fail
          go_ret2
          exact ⟨_, ret_sb HR.out, OwnE.below HO.out (show Below wr.heap.size wr _ from (by repeat (first | exact Below.refl _ _ | assumption | refine Below.drew ?_ | refine below_drewN ?_ _ | refine Below.alloc ?_ (by first | omega | (simp <;> omega)) _ | refine Below.setCell ?_ (by first | omega | (simp <;> omega)) _ | refine Below.trans ?_ (Below.mono (by assumption) (by first | omega | (simp <;> omega)))))) rfl, (by repeat (first | exact Below.refl _ _ | assumption | refine Below.drew ?_ | refine below_drewN ?_ _ | refine Below.alloc ?_ (by first | omega | (simp <;> omega)) _ | refine Below.setCell ?_ (by first | omega | (simp <;> omega)) _ | refine Below.trans ?_ (Below.mono (by assumption) (by first | omega | (simp <;> omega)))))⟩
end Go.Proofs.Ytbcjligkjoimmaa
namespace Go.Proofs.Ytbcjligkjoimmaa
set_option linter.unusedSimpArgs false
set_option linter.unusedVariables false
set_option linter.unnecessarySimpa false
set_option maxRecDepth 200000
open Go.ChangeShapes Go.WideShapes Go.ChangeAt Go.RowKit

theorem spec_l1Has_all (v : Value) (L : List Nat) (x : Nat) (w : World) (h : RdI w v (ints L)) :
    Calls Try.prog 54 #[v, .int .i64 (x : Int)] w fun e w' => e = .returned (.bool (hasB L x)) ∧ w = w' := by
  by_cases h0 : 0 < L.length
  · exact spec_l1Has_any v L x w h h0
  · have hL : L = [] := List.eq_nil_of_length_eq_zero (by omega)
    subst hL
    obtain ⟨A, c, rfl, _⟩ := h.form
    clear h
    rw [ints_len]
    go_enter Try.func54, Try.ntmps54
    go_wp2_with fail
    refine wp_loop_rounds 1 ?_
    rw [rounds_succ]
    go_wp2_with fail
    go_ret
    exact ⟨rfl, rfl⟩
/-- The reference's state: gates in the circuit of box bO, rows behind box b7, masks done, qubits to look at. -/
structure SSt (B bO b7 n : Nat) (W0 w : World) (vO vR vD vA : Value) (R At D : List Nat) (O : List E3) : Prop where
  c0 : w.cell? ⟨bO, 0, none⟩ = some (.int .i64 (n : Int))
  cO : w.cell? ⟨bO, 1, none⟩ = some vO
  fO : w.frozen? ⟨bO, 1, none⟩ = false
  cR : w.cell? ⟨b7, 0, none⟩ = some vR
  fR : w.frozen? ⟨b7, 0, none⟩ = false
  rows : OwnI w B vR (ints R)
  out : w.ownsRow B 58 3 vO O.length (O.flatMap E3.cs)
  dn : w.ownsRow B 3 1 vD D.length ((ints D).map (Value.int .i64))
  at_ : w.ownsRow B 3 1 vA At.length ((ints At).map (Value.int .i64))
  apO : ∀ g, vO.ownBlock = some g → g ≠ bO ∧ g ≠ b7 ∧ vR.ownBlock ≠ some g ∧ vD.ownBlock ≠ some g ∧ vA.ownBlock ≠ some g
  apD : ∀ g, vD.ownBlock = some g → g ≠ bO ∧ g ≠ b7 ∧ vR.ownBlock ≠ some g ∧ vA.ownBlock ≠ some g
  apR : ∀ g, vR.ownBlock = some g → g ≠ bO ∧ g ≠ b7 ∧ vA.ownBlock ≠ some g
  apA : ∀ g, vA.ownBlock = some g → g ≠ bO ∧ g ≠ b7
  nn : bO ≠ b7
  BO : B ≤ bO
  B7 : B ≤ b7
  bel : Below B W0 w
section
variable {B bO b7 n : Nat} {W0 w w' : World} {vO vR vD vA v' : Value} {R At D : List Nat} {O : List E3}
theorem SSt.lt (h : SSt B bO b7 n W0 w vO vR vD vA R At D O) : bO < w.heap.size ∧ b7 < w.heap.size ∧ B ≤ w.heap.size := by
  have h1 := World.block_lt_of_cell? _ _ h.cO
  have h2 := World.block_lt_of_cell? _ _ h.cR
  have h5 := h.BO
  dsimp only at h1 h2
  exact ⟨h1, h2, by omega⟩
theorem SSt.call (h : SSt B bO b7 n W0 w vO vR vD vA R At D O) (hb : Below w.heap.size w w') : SSt B bO b7 n W0 w' vO vR vD vA R At D O :=
  have hl := h.lt
  ⟨below_cell hb rfl h.c0, below_cell hb rfl h.cO, below_frz hb rfl hl.1 h.fO, below_cell hb rfl h.cR, below_frz hb rfl hl.2.1 h.fR, OwnI.below h.rows hb rfl, own_below h.out hb rfl, own_below h.dn hb rfl, own_below h.at_ hb rfl, h.apO, h.apD, h.apR, h.apA, h.nn, h.BO, h.B7, Below.trans h.bel (hb.mono hl.2.2)⟩
/-- A step that touches one row of the state alone, or lays new blocks. -/
theorem own_ne {sz m : Nat} {t : TypeId} {v u : Value} {xs : List Value} (hg : w.grownBy w' v.ownBlock) (ho : w.ownsRow B t sz u m xs) (hne : ∀ g, v.ownBlock = some g → u.ownBlock ≠ some g) : w'.ownsRow B t sz u m xs :=
  own_other hg ho (fun g h1 h2 => hne g h2 h1)
theorem SSt.appA {q : Nat} (h : SSt B bO b7 n W0 w vO vR vD vA R At D O) (hown : w'.ownsRow B 3 1 v' (At.length + 1) ((ints At).map (Value.int .i64) ++ [.int .i64 (q : Int)]))
    (hg : w.grownBy w' vA.ownBlock) (hat : v'.ownBlock = vA.ownBlock ∨ v'.ownBlock = some w.heap.size) : SSt B bO b7 n W0 w' vO vR vD v' R (At ++ [q]) D O := by
  have hl := h.lt
  have hO := World.ownsRow.lt h.out; have hD := World.ownsRow.lt h.dn; have hR := World.ownsRow.lt h.rows
  have n1 : vA.ownBlock ≠ some bO := fun e => (h.apA _ e).1 rfl
  have n2 : vA.ownBlock ≠ some b7 := fun e => (h.apA _ e).2 rfl
  have hv : ∀ g, v'.ownBlock = some g → (g ≠ bO ∧ g ≠ b7) ∧ vR.ownBlock ≠ some g ∧ vO.ownBlock ≠ some g ∧ vD.ownBlock ≠ some g := by
    intro g hg'
    rcases hat with e | e
    · rw [e] at hg'; exact ⟨h.apA g hg', fun e2 => (h.apR g e2).2.2 hg', fun e2 => (h.apO g e2).2.2.2.2 hg', fun e2 => (h.apD g e2).2.2.2 hg'⟩
    · rw [e] at hg'; injection hg' with hg'
      exact ⟨⟨by omega, by omega⟩, fun e2 => by have := (hR g e2).2; omega, fun e2 => by have := (hO g e2).2; omega, fun e2 => by have := (hD g e2).2; omega⟩
  refine ⟨cell_grown hg h.c0 n1, cell_grown hg h.cO n1, frz_grown hg hl.1 h.fO n1, cell_grown hg h.cR n2, frz_grown hg hl.2.1 h.fR n2, own_ne hg h.rows (fun g e e2 => (h.apR g e2).2.2 e), own_ne hg h.out (fun g e e2 => (h.apO g e2).2.2.2.2 e), own_ne hg h.dn (fun g e e2 => (h.apD g e2).2.2.2 e), ?_, fun g e => ⟨(h.apO g e).1, (h.apO g e).2.1, (h.apO g e).2.2.1, (h.apO g e).2.2.2.1, fun e2 => (hv g e2).2.2.1 e⟩, fun g e => ⟨(h.apD g e).1, (h.apD g e).2.1, (h.apD g e).2.2.1, fun e2 => (hv g e2).2.2.2 e⟩, fun g e => ⟨(h.apR g e).1, (h.apR g e).2.1, fun e2 => (hv g e2).2.1 e⟩, fun g e => (hv g e).1, h.nn, h.BO, h.B7, h.bel.grown hg hl.2.2 (fun k hk => (World.ownsRow.lt h.at_ k hk).1)⟩
  have e9 : (At ++ [q]).length = At.length + 1 := by simp
  rw [e9]; simpa [ints] using hown
theorem SSt.appD {x : Nat} (h : SSt B bO b7 n W0 w vO vR vD vA R At D O) (hown : w'.ownsRow B 3 1 v' (D.length + 1) ((ints D).map (Value.int .i64) ++ [.int .i64 (x : Int)]))
    (hg : w.grownBy w' vD.ownBlock) (hat : v'.ownBlock = vD.ownBlock ∨ v'.ownBlock = some w.heap.size) : SSt B bO b7 n W0 w' vO vR v' vA R At (D ++ [x]) O := by
  have hl := h.lt
  have hO := World.ownsRow.lt h.out; have hA := World.ownsRow.lt h.at_; have hR := World.ownsRow.lt h.rows
  have n1 : vD.ownBlock ≠ some bO := fun e => (h.apD _ e).1 rfl
  have n2 : vD.ownBlock ≠ some b7 := fun e => (h.apD _ e).2.1 rfl
  have hv : ∀ g, v'.ownBlock = some g → (g ≠ bO ∧ g ≠ b7) ∧ vR.ownBlock ≠ some g ∧ vO.ownBlock ≠ some g ∧ vA.ownBlock ≠ some g := by
    intro g hg'
    rcases hat with e | e
    · rw [e] at hg'; exact ⟨⟨(h.apD g hg').1, (h.apD g hg').2.1⟩, (h.apD g hg').2.2.1, fun e2 => (h.apO g e2).2.2.2.1 hg', (h.apD g hg').2.2.2⟩
    · rw [e] at hg'; injection hg' with hg'
      exact ⟨⟨by omega, by omega⟩, fun e2 => by have := (hR g e2).2; omega, fun e2 => by have := (hO g e2).2; omega, fun e2 => by have := (hA g e2).2; omega⟩
  refine ⟨cell_grown hg h.c0 n1, cell_grown hg h.cO n1, frz_grown hg hl.1 h.fO n1, cell_grown hg h.cR n2, frz_grown hg hl.2.1 h.fR n2, own_ne hg h.rows (fun g e e2 => (h.apD g e).2.2.1 e2), own_ne hg h.out (fun g e e2 => (h.apO g e2).2.2.2.1 e), ?_, own_ne hg h.at_ (fun g e e2 => (h.apD g e).2.2.2 e2), fun g e => ⟨(h.apO g e).1, (h.apO g e).2.1, (h.apO g e).2.2.1, fun e2 => (hv g e2).2.2.1 e, (h.apO g e).2.2.2.2⟩, fun g e => ⟨(hv g e).1.1, (hv g e).1.2, (hv g e).2.1, (hv g e).2.2.2⟩, h.apR, h.apA, h.nn, h.BO, h.B7, h.bel.grown hg hl.2.2 (fun k hk => (World.ownsRow.lt h.dn k hk).1)⟩
  have e9 : (D ++ [x]).length = D.length + 1 := by simp
  rw [e9]; simpa [ints] using hown
theorem SSt.appO {m : Nat} {rot : List E3} (h : SSt B bO b7 n W0 w vO vR vD vA R At D O) (hm : rot.length = m) (hown : w'.ownsRow B 58 3 v' (O.length + m) (O.flatMap E3.cs ++ rot.flatMap E3.cs))
    (hg : w.grownBy w' vO.ownBlock) (hat : v'.ownBlock = vO.ownBlock ∨ v'.ownBlock = some w.heap.size) :
    w'.cell? ⟨bO, 1, none⟩ = some vO ∧ w'.frozen? ⟨bO, 1, none⟩ = false ∧ SSt B bO b7 n W0 (w'.setCell ⟨bO, 1, none⟩ v') v' vR vD vA R At D (O ++ rot) := by
  have hl := h.lt
  have hD := World.ownsRow.lt h.dn; have hA := World.ownsRow.lt h.at_; have hR := World.ownsRow.lt h.rows
  have n1 : vO.ownBlock ≠ some bO := fun e => (h.apO _ e).1 rfl
  have n2 : vO.ownBlock ≠ some b7 := fun e => (h.apO _ e).2.1 rfl
  have d0 := cell_grown hg h.c0 n1
  have dO := cell_grown hg h.cO n1
  have fO := frz_grown hg hl.1 h.fO n1
  have dR := cell_grown hg h.cR n2
  have fR := frz_grown hg hl.2.1 h.fR n2
  have hv : ∀ g, v'.ownBlock = some g → (g ≠ bO ∧ g ≠ b7) ∧ vR.ownBlock ≠ some g ∧ vD.ownBlock ≠ some g ∧ vA.ownBlock ≠ some g := by
    intro g hg'
    rcases hat with e | e
    · rw [e] at hg'; exact ⟨⟨(h.apO g hg').1, (h.apO g hg').2.1⟩, (h.apO g hg').2.2⟩
    · rw [e] at hg'; injection hg' with hg'
      exact ⟨⟨by omega, by omega⟩, fun e2 => by have := (hR g e2).2; omega, fun e2 => by have := (hD g e2).2; omega, fun e2 => by have := (hA g e2).2; omega⟩
  refine ⟨dO, fO, ⟨(World.cell?_setCell_other _ _ _ _ (by intro e; injection e with _ e; cases e)).trans d0, World.cell?_setCell_same _ _ _ dO, by rw [World.frozen?_setCell]; exact fO, cell_set_far (Ne.symm h.nn) dR, by rw [World.frozen?_setCell]; exact fR, own_set_ne (own_ne hg h.rows (fun g e e2 => (h.apO g e).2.2.1 e2)) (fun g e => (h.apR g e).1) _, ?_, own_set_ne (own_ne hg h.dn (fun g e e2 => (h.apO g e).2.2.2.1 e2)) (fun g e => (h.apD g e).1) _, own_set_ne (own_ne hg h.at_ (fun g e e2 => (h.apO g e).2.2.2.2 e2)) (fun g e => (h.apA g e).1) _, fun g e => ⟨(hv g e).1.1, (hv g e).1.2, (hv g e).2⟩, h.apD, h.apR, h.apA, h.nn, h.BO, h.B7, Below.setCell (h.bel.grown hg hl.2.2 (fun k hk => (World.ownsRow.lt h.out k hk).1)) h.BO _⟩⟩
  rw [List.length_append, List.flatMap_append, hm]
  exact own_set_ne hown (fun g e => (hv g e).1.1) _
/-- The rows are another list's, in blocks that were not there. -/
theorem SSt.setR {R' : List Nat} (h : SSt B bO b7 n W0 w vO vR vD vA R At D O) (hb : Below w.heap.size w w') (ho : OwnI w' w.heap.size v' (ints R')) : SSt B bO b7 n W0 (w'.setCell ⟨b7, 0, none⟩ v') vO v' vD vA R' At D O := by
  have hl := h.lt
  have k := h.call hb
  have hO := World.ownsRow.lt h.out; have hD := World.ownsRow.lt h.dn; have hA := World.ownsRow.lt h.at_
  have hv : ∀ g, v'.ownBlock = some g → w.heap.size ≤ g := fun g e => (World.ownsRow.lt ho g e).1
  refine ⟨cell_set_far h.nn k.c0, cell_set_far h.nn k.cO, by rw [World.frozen?_setCell]; exact k.fO, World.cell?_setCell_same _ _ _ k.cR, by rw [World.frozen?_setCell]; exact k.fR, own_set_ne (OwnI.le ho hl.2.2) (fun g e => by have := hv g e; dsimp only; omega) _, own_set_ne k.out (fun g e => (h.apO g e).2.1) _, own_set_ne k.dn (fun g e => (h.apD g e).2.1) _, own_set_ne k.at_ (fun g e => (h.apA g e).2) _, fun g e => ⟨(h.apO g e).1, (h.apO g e).2.1, fun e2 => by have := hv g e2; have := (hO g e).2; omega, (h.apO g e).2.2.2⟩, fun g e => ⟨(h.apD g e).1, (h.apD g e).2.1, fun e2 => by have := hv g e2; have := (hD g e).2; omega, (h.apD g e).2.2.2⟩, fun g e => ⟨by have := hv g e; omega, by have := hv g e; omega, fun e2 => by have := hv g e; have := (hA g e2).2; omega⟩, h.apA, h.nn, h.BO, h.B7, Below.setCell k.bel h.B7 _⟩
/-- The qubits to look at are one alone, laid into a new block. -/
theorem SSt.newA {b : Nat} (h : SSt B bO b7 n W0 w vO vR vD vA R At D O) : SSt B bO b7 n W0 (w.alloc (.cells #[.int .i64 (b : Int)] 3)) vO vR vD (.slice (some ⟨w.heap.size, 0, none⟩) 1 1) R [b] D O := by
  have hl := h.lt
  have k := h.call (show Below w.heap.size w (w.alloc (.cells #[.int .i64 (b : Int)] 3)) from (by repeat (first | exact Below.refl _ _ | assumption | refine Below.drew ?_ | refine below_drewN ?_ _ | refine Below.alloc ?_ (by first | omega | (simp <;> omega)) _ | refine Below.setCell ?_ (by first | omega | (simp <;> omega)) _ | refine Below.trans ?_ (Below.mono (by assumption) (by first | omega | (simp <;> omega))))))
  have hO := World.ownsRow.lt h.out; have hD := World.ownsRow.lt h.dn; have hR := World.ownsRow.lt h.rows
  have hv : ∀ g, (Value.slice (some ⟨w.heap.size, 0, none⟩) 1 1).ownBlock = some g → g = w.heap.size := fun g e => by
    have h8 : w.heap.size = g := by simpa [Value.ownBlock] using e
    exact h8.symm
  refine ⟨k.c0, k.cO, k.fO, k.cR, k.fR, k.rows, k.out, k.dn, ?_, fun g e => ⟨(h.apO g e).1, (h.apO g e).2.1, (h.apO g e).2.2.1, (h.apO g e).2.2.2.1, fun e2 => by have := hv g e2; have := (hO g e).2; omega⟩, fun g e => ⟨(h.apD g e).1, (h.apD g e).2.1, (h.apD g e).2.2.1, fun e2 => by have := hv g e2; have := (hD g e).2; omega⟩, fun g e => ⟨(h.apR g e).1, (h.apR g e).2.1, fun e2 => by have := hv g e2; have := (hR g e).2; omega⟩, fun g e => by have := hv g e; omega, h.nn, h.BO, h.B7, k.bel⟩
  refine ⟨by simp [ints], .inr ⟨w.heap.size, 1, #[.int .i64 (b : Int)], rfl, hl.2.2, ?_, Nat.le_refl _, by unfold maxLen; omega, by simp, by simp [ints]⟩⟩
  show (w.heap.push _)[w.heap.size]? = _
  simp
end
/-- The looks at a qubit only add. -/
theorem spT_grow (x q : Nat) : ∀ (ts : List E2) (s : List Nat × List E3), s.1.length ≤ (ts.foldl (spT x q) s).1.length ∧ s.2.length ≤ (ts.foldl (spT x q) s).2.length
  | [], _ => ⟨Nat.le_refl _, Nat.le_refl _⟩
  | t :: ts, s => by
    rw [List.foldl_cons]
    have h := spT_grow x q ts (spT x q s t)
    have h2 : s.1.length ≤ (spT x q s t).1.length ∧ s.2.length ≤ (spT x q s t).2.length := by
      unfold spT; split <;> simp
    omega
def spM (x q : Nat) (ts : List E2) (s : List Nat × List E3) (m : Nat) : List Nat × List E3 := (ts.take m).foldl (spT x q) s
theorem spM_succ {x q : Nat} {ts : List E2} {s : List Nat × List E3} {m : Nat} (h : m < ts.length) : spM x q ts s (m + 1) = spT x q (spM x q ts s m) (ts.getD m ⟨0, 0⟩) := by
  unfold spM
  rw [List.take_succ_eq_append_getElem h, List.foldl_append]
  simp [List.getD, h]
theorem spM_le (x q : Nat) (ts : List E2) (s : List Nat × List E3) (m : Nat) : (spM x q ts s m).1.length ≤ (ts.foldl (spT x q) s).1.length ∧ (spM x q ts s m).2.length ≤ (ts.foldl (spT x q) s).2.length := by
  have h := spT_grow x q (ts.drop m) (spM x q ts s m)
  have e : (ts.drop m).foldl (spT x q) (spM x q ts s m) = ts.foldl (spT x q) s := by unfold spM; rw [← List.foldl_append, List.take_append_drop]
  rw [e] at h; exact h
theorem spM_end {x q : Nat} {ts : List E2} {s : List Nat × List E3} {m : Nat} (h : ts.length ≤ m) : spM x q ts s m = ts.foldl (spT x q) s := by unfold spM; rw [List.take_of_length_le h]
def spJ (ts : List E2) (R : List Nat) (s : List Nat × List E3) (qs : List Nat) (j : Nat) : List Nat × List E3 := (qs.take j).foldl (spQ ts R) s
theorem spJ_succ {ts : List E2} {R : List Nat} {s : List Nat × List E3} {qs : List Nat} {j : Nat} (h : j < qs.length) : spJ ts R s qs (j + 1) = spQ ts R (spJ ts R s qs j) (qs.getD j 0) := by
  unfold spJ
  rw [List.take_succ_eq_append_getElem h, List.foldl_append]
  simp [List.getD, h]
theorem spJ_end {ts : List E2} {R : List Nat} {s : List Nat × List E3} {qs : List Nat} {j : Nat} (h : qs.length ≤ j) : spJ ts R s qs j = qs.foldl (spQ ts R) s := by unfold spJ; rw [List.take_of_length_le h]
theorem spJ_ok {n k : Nat} {ts : List E2} {qs : List Nat} (hn : n ≤ 5) (hr : Rise ts) (R : List Nat) {s : List Nat × List E3} (hq : ∀ q ∈ qs, q < n) (h : PlOk n ts k s) (j : Nat) : PlOk n ts k (spJ ts R s qs j) :=
  (place_all hn hr R (qs.take j) s (fun q hq' => hq q (List.mem_of_mem_take hq')) h).1
end Go.Proofs.Ytbcjligkjoimmaa
