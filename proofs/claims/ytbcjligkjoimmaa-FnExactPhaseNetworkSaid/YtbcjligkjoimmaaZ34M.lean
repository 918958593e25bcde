/- PlaceRotations in the reference: the walks. -/
import Derived.Test.YtbcjligkjoimmaaZ33M
import Derived.Test.YtbcjligkjoimmaaZ29Brk
import Derived.BigRegion
import Derived.BigQuiet
namespace Go.Proofs.Ytbcjligkjoimmaa
set_option linter.unusedSimpArgs false
set_option linter.unusedVariables false
set_option linter.unnecessarySimpa false
set_option maxRecDepth 200000
open Go.ChangeShapes Go.WideShapes Go.ChangeAt Go.RowKit

theorem qubit_at {w : World} {B m : Nat} {v : Value} {At : List Nat} (h : w.ownsRow B 3 1 v At.length ((ints At).map (Value.int .i64))) (hm : m < At.length) : ∃ g cap, v = .slice (some ⟨g, 0, none⟩) At.length cap ∧ w.cell? ⟨g, m, none⟩ = some (.int .i64 ((At.getD m 0 : Nat) : Int)) := by
  obtain ⟨g, cap, rfl⟩ := Go.Joins.ownsRow_form h (by omega)
  exact ⟨g, cap, rfl, own_int_cell (show OwnN w B g At.length cap At from h) m hm⟩
theorem term_at2 {w : World} {v : Value} {ts : List E2} (h : RdE w v E2.cs 2 ts) : ∃ A c, v = .slice A ts.length c ∧ Hid (∀ k, k < ts.length → ∃ b off, A = some ⟨b, off, none⟩ ∧ b < w.heap.size ∧ w.cell? ⟨b, off + k * 2, none⟩ = some (.int .i64 (ts.getD k ⟨0, 0⟩).a) ∧ w.cell? ⟨b, off + k * 2 + 1, none⟩ = some (.int .i64 (ts.getD k ⟨0, 0⟩).b)) := by
  rcases h.cases0 E2.len with ⟨he, A, c, rfl⟩ | ⟨_, b, off, cap, rfl, hb, hl, hm, hc⟩
  · subst he
    exact ⟨A, c, rfl, show ∀ _, _ from fun k hk => by simp at hk⟩
  · refine ⟨_, cap, rfl, show ∀ _, _ from fun k hk => ⟨b, off, rfl, hb, ?_⟩⟩
    have e : ts.getD k ⟨0, 0⟩ = ts[k] := by simp [List.getD, hk]
    rw [e]
    exact ⟨hc k hk 0 _ (by omega) rfl, hc k hk 1 _ (by omega) rfl⟩
set_option maxHeartbeats 32000000 in
theorem spec_l14Place_any (n : Nat) (v u : Value) (d : Circ) (ts : List E2) (w : World) (h : RdE w v E3.cs 3 d.gs) (k : RdE w u E2.cs 2 ts) (hnet : netB d = true) (hn : d.n = (n : Int)) (ht : TermsOk d.n ts) :
    Calls Try.prog 21 #[.agg #[.int .i64 d.n, v], u] w fun e w' => ∃ vO, e = .returned (.tuple #[.agg #[.int .i64 (n : Int), vO], .int .i64 ((plEnd n d.gs ts).1.length : Int)]) ∧ OwnE w' w.heap.size 58 vO E3.cs 3 (plEnd n d.gs ts).2 ∧ Below w.heap.size w w' := by
  obtain ⟨i0, hi, hz0, hz1, hz2⟩ := info_parts info_gate
  obtain ⟨j0, hj, hy0, hy1, hy2⟩ := info_parts info_int
  have hnn := net_n hnet
  have hfew := terms_few (show 1 ≤ d.n ∧ d.n ≤ 5 from ⟨hnn.1, hnn.2.1⟩) ht
  have n1 : 1 ≤ n := by omega
  have n5 : n ≤ 5 := by omega
  have HR := Lib.hid (rise_of ht)
  have HT := Lib.hid (term_b ht)
  have HI := Lib.hid (plTo_inv HR.out hnet hn)
  have HB := Lib.hid hnet
  have HN := Lib.hid hn
  have hgl : d.gs.length ≤ 400 := hnn.2.2
  obtain ⟨A, c, rfl, Hc⟩ := gate_at h
  obtain ⟨A2, c2, rfl, Kc⟩ := term_at2 k
  clear h k hnet ht hnn
  go_enter Try.func21, Try.ntmps21
  go_wp2_with fail
  rw [hn]
  clear hn
  have hB0 : Below w.heap.size w (((w.alloc (.cells #[.int .i64 (n : Int), .slice A d.gs.length c] 31)).alloc (.cells #[.int .i64 0, .slice none 0 0] 31)).alloc (.cells #[.int .i64 (n : Int), .slice none 0 0] 31)) := (by repeat (first | exact Below.refl _ _ | assumption | refine Below.drew ?_ | refine below_drewN ?_ _ | refine Below.alloc ?_ (by first | omega | (simp <;> omega)) _ | refine Below.setCell ?_ (by first | omega | (simp <;> omega)) _ | refine Below.trans ?_ (Below.mono (by assumption) (by first | omega | (simp <;> omega)))))
  obtain ⟨W0, hW0⟩ : ∃ W0, W0 = ((w.alloc (.cells #[.int .i64 (n : Int), .slice A d.gs.length c] 31)).alloc (.cells #[.int .i64 0, .slice none 0 0] 31)) := ⟨_, rfl⟩
  have b0 : Below (w.heap.size + 1 + 1) W0 (W0.alloc (.cells #[.int .i64 (n : Int), .slice none 0 0] 31)) := Below.alloc (Below.refl _ _) (by rw [hW0]; simp) _
  have s0 : W0.heap.size = w.heap.size + 1 + 1 := by rw [hW0]; simp
  have A0 := Lib.hid (fun W (hb : Below (w.heap.size + 1 + 1) W0 W) => show W.cell? ⟨w.heap.size, 0, none⟩ = some (.int .i64 (n : Int)) from (hb.cell (p := ⟨w.heap.size, 0, none⟩) (by dsimp only; omega)).trans (by rw [hW0]; exact (by repeat (first | (refine Eq.trans (World.cell?_alloc_at _ _ _ _ ?hh) ?_; (case hh => (simp; done)); rfl) | refine cell_alloc_keep _ ?_))))
  have A1 := Lib.hid (fun W (hb : Below (w.heap.size + 1 + 1) W0 W) => show W.cell? ⟨w.heap.size, 1, none⟩ = some (.slice A d.gs.length c) from (hb.cell (p := ⟨w.heap.size, 1, none⟩) (by dsimp only; omega)).trans (by rw [hW0]; exact (by repeat (first | (refine Eq.trans (World.cell?_alloc_at _ _ _ _ ?hh) ?_; (case hh => (simp; done)); rfl) | refine cell_alloc_keep _ ?_))))
  have R0 := Lib.hid (fun W (hb : Below (w.heap.size + 1 + 1) W0 W) => show W.cell? ⟨w.heap.size + 1, 0, none⟩ = some (.int .i64 0) from (hb.cell (p := ⟨w.heap.size + 1, 0, none⟩) (by dsimp only; omega)).trans (by rw [hW0]; exact (by repeat (first | (refine Eq.trans (World.cell?_alloc_at _ _ _ _ ?hh) ?_; (case hh => (simp; done)); rfl) | refine cell_alloc_keep _ ?_))))
  have R1 := Lib.hid (fun W (hb : Below (w.heap.size + 1 + 1) W0 W) => show W.cell? ⟨w.heap.size + 1, 1, none⟩ = some (.slice none 0 0) from (hb.cell (p := ⟨w.heap.size + 1, 1, none⟩) (by dsimp only; omega)).trans (by rw [hW0]; exact (by repeat (first | (refine Eq.trans (World.cell?_alloc_at _ _ _ _ ?hh) ?_; (case hh => (simp; done)); rfl) | refine cell_alloc_keep _ ?_))))
  have F0 := Lib.hid (fun W (hb : Below (w.heap.size + 1 + 1) W0 W) => show W.frozen? ⟨w.heap.size + 1, 0, none⟩ = false ∧ W.frozen? ⟨w.heap.size + 1, 1, none⟩ = false from ⟨(hb.frozen (p := ⟨w.heap.size + 1, 0, none⟩) (by dsimp only; omega)).trans (by rw [hW0]; exact (by repeat (first | (refine World.frozen?_alloc_at _ _ _ _ ?hh; case hh => (simp; done)) | (refine frozen_alloc_lt _ ?hh ?_; case hh => first | omega | (simp <;> omega))))), (hb.frozen (p := ⟨w.heap.size + 1, 1, none⟩) (by dsimp only; omega)).trans (by rw [hW0]; exact (by repeat (first | (refine World.frozen?_alloc_at _ _ _ _ ?hh; case hh => (simp; done)) | (refine frozen_alloc_lt _ ?hh ?_; case hh => first | omega | (simp <;> omega)))))⟩)
  have BW := Lib.hid (fun W (hb : Below (w.heap.size + 1 + 1) W0 W) => show Below w.heap.size w W from Below.trans (show Below w.heap.size w W0 from by rw [hW0]; exact (by repeat (first | exact Below.refl _ _ | assumption | refine Below.drew ?_ | refine below_drewN ?_ _ | refine Below.alloc ?_ (by first | omega | (simp <;> omega)) _ | refine Below.setCell ?_ (by first | omega | (simp <;> omega)) _ | refine Below.trans ?_ (Below.mono (by assumption) (by first | omega | (simp <;> omega)))))) (hb.mono (by omega)))
  have cc0 : (W0.alloc (.cells #[.int .i64 (n : Int), .slice none 0 0] 31)).cell? ⟨w.heap.size + 1 + 1, 0, none⟩ = some (.int .i64 (n : Int)) := by rw [hW0]; exact (by repeat (first | (refine Eq.trans (World.cell?_alloc_at _ _ _ _ ?hh) ?_; (case hh => (simp; done)); rfl) | refine cell_alloc_keep _ ?_))
  have cc1 : (W0.alloc (.cells #[.int .i64 (n : Int), .slice none 0 0] 31)).cell? ⟨w.heap.size + 1 + 1, 1, none⟩ = some (.slice none 0 0) := by rw [hW0]; exact (by repeat (first | (refine Eq.trans (World.cell?_alloc_at _ _ _ _ ?hh) ?_; (case hh => (simp; done)); rfl) | refine cell_alloc_keep _ ?_))
  have cf1 : (W0.alloc (.cells #[.int .i64 (n : Int), .slice none 0 0] 31)).frozen? ⟨w.heap.size + 1 + 1, 1, none⟩ = false := by rw [hW0]; exact (by repeat (first | (refine World.frozen?_alloc_at _ _ _ _ ?hh; case hh => (simp; done)) | (refine frozen_alloc_lt _ ?hh ?_; case hh => first | omega | (simp <;> omega))))
  rw [← hW0] at hB0 ⊢
  clear hW0
  refine (spec_l12Identity_any (n : Int) _ (by omega) (by omega)).mono ?_; rintro e w1 ⟨v1, rfl, ho1, hb1⟩
  rw [Int.toNat_natCast, idN_ints] at ho1
  obtain ⟨gR, capR, hv1, hg1a, hg1b⟩ := own_ints ho1 (by rw [idN_len]; omega)
  rw [idN_len] at hv1
  subst hv1
  have S0 : Hid (SSt (w.heap.size + 1 + 1) (w.heap.size + 1 + 1) w1.heap.size n W0 (w1.alloc (.cells #[.slice (some ⟨gR, 0, none⟩) n capR] 35)) (.slice none 0 0) (.slice (some ⟨gR, 0, none⟩) n capR) (.slice none 0 0) (.slice none 0 0) (idN n) [] [] []) := by
    have z1 := hb1.size
    simp at z1 hg1a
    have b2 : Below w1.heap.size w1 (w1.alloc (.cells #[.slice (some ⟨gR, 0, none⟩) n capR] 35)) := (by repeat (first | exact Below.refl _ _ | assumption | refine Below.drew ?_ | refine below_drewN ?_ _ | refine Below.alloc ?_ (by first | omega | (simp <;> omega)) _ | refine Below.setCell ?_ (by first | omega | (simp <;> omega)) _ | refine Below.trans ?_ (Below.mono (by assumption) (by first | omega | (simp <;> omega)))))
    have eR : ∀ g, (Value.slice (some ⟨gR, 0, none⟩) n capR).ownBlock = some g → g = gR := fun g e => by
      have h8 : gR = g := by simpa [Value.ownBlock] using e
      exact h8.symm
    have no : ∀ g, (Value.slice none 0 0).ownBlock ≠ some g := fun g e => by cases e
    exact (show SSt _ _ _ _ _ _ _ _ _ _ _ _ _ _ from ⟨below_cell b2 rfl (below_cell hb1 rfl cc0), below_cell b2 rfl (below_cell hb1 rfl cc1), below_frz b2 rfl (by omega) (below_frz hb1 rfl (by simp; omega) cf1), (by repeat (first | (refine Eq.trans (World.cell?_alloc_at _ _ _ _ ?hh) ?_; (case hh => (simp; done)); rfl) | refine cell_alloc_keep _ ?_)), (by repeat (first | (refine World.frozen?_alloc_at _ _ _ _ ?hh; case hh => (simp; done)) | (refine frozen_alloc_lt _ ?hh ?_; case hh => first | omega | (simp <;> omega)))), OwnI.below (OwnI.le ho1 (by simp; omega)) b2 rfl, World.ownsRow_nil _ _ _ _, World.ownsRow_nil _ _ _ _, World.ownsRow_nil _ _ _ _, fun g e => absurd e (no g), fun g e => absurd e (no g), fun g e => by have := eR g e; exact ⟨by omega, by omega, no g⟩, fun g e => absurd e (no g), by omega, Nat.le_refl _, by omega, Below.trans b0 (Below.trans (hb1.mono (by simp; omega)) (b2.mono (by omega)))⟩)
  clear cc0 cc1 cf1 b0 hB0 ho1 hb1 s0
  go_wp2_with fail
  go_loopw [9, 10] (fun vA i wr => ∃ (k : Nat), k ≤ n ∧ i = .int .i64 k ∧ Hid (SSt (w.heap.size + 1 + 1) (w.heap.size + 1 + 1) w1.heap.size n W0 wr (.slice none 0 0) (.slice (some ⟨gR, 0, none⟩) n capR) (.slice none 0 0) vA (idN n) (List.range k) [] [])) (fun _ i _ => n - (intOf i).toNat)
  case atStart => exact ⟨0, Nat.zero_le _, rfl, S0⟩
  case round =>
    obtain ⟨k, hk, rfl, hS⟩ := hrel
    rename_i vA _
    clear S0
    have t0 := A0.out _ hS.out.bel
    by_cases hlt : k < n
    · have i1 : (k : Int) < (n : Int) := by omega
      have SX := Lib.hid (hS.out.call (show Below wr.heap.size wr (wr.alloc (.cells #[.int .i64 (k : Int)] 3)) from (by repeat (first | exact Below.refl _ _ | assumption | refine Below.drew ?_ | refine below_drewN ?_ _ | refine Below.alloc ?_ (by first | omega | (simp <;> omega)) _ | refine Below.setCell ?_ (by first | omega | (simp <;> omega)) _ | refine Below.trans ?_ (Below.mono (by assumption) (by first | omega | (simp <;> omega)))))))
      have ln : (List.range k).length = k := List.length_range
      go_wp2_with (at_builtin; go_must (refine wpList_append_any _ rfl _ _ 23 rfl (w.heap.size + 1 + 1) 3 j0 (.int .i64 0) 1 8 Try.underlying23 hj hy0 hy1 hy2 rfl (by decide) _ (List.range k).length _ rfl SX.out.at_ (wr.heap.size + 1) _ 1 1 [.int .i64 (k : Int)] rfl (one_reads wr k) (one_one _) (by unfold maxLen; omega) (by omega) SX.out.lt.2.2 ?_; intro v3 w4 hown3 hg3 hat3; have S4 := Lib.hid (SSt.appA (q := k) SX.out (by simpa using hown3) hg3 hat3); clear hown3 hg3 hat3))
      go_roundw
      case rel => exact ⟨k + 1, by omega, by go_num, (show SSt _ _ _ _ _ _ _ _ _ _ _ _ _ _ from by rw [List.range_succ]; exact S4.out)⟩
      case measure => simp [intOf]; omega
    · have e1 : n = k := by omega
      subst e1
      have i1 : ¬ (n : Int) < (n : Int) := by omega
      go_wp2_with fail
      go_loopw [8, 9, 11] (fun sd sa i wr => ∃ (k : Nat) (vO vR vD vA : Value) (R At D : List Nat) (O : List E3), vD = sd ∧ vA = sa ∧ i = .int .i64 k ∧ k ≤ d.gs.length + 1 ∧ Hid (SSt (w.heap.size + 1 + 1) (w.heap.size + 1 + 1) w1.heap.size n W0 wr vO vR vD vA R At D O) ∧ Hid ((k ≤ d.gs.length ∧ plTo n d.gs ts k = ⟨R, At, D, O⟩) ∨ (k = d.gs.length + 1 ∧ plEnd n d.gs ts = (D, O)))) (fun _ _ i _ => d.gs.length + 2 - (intOf i).toNat)
      case atStart => exact ⟨0, _, _, _, _, _, _, _, _, rfl, rfl, rfl, by omega, hS, (show _ ∨ _ from .inl ⟨by omega, rfl⟩)⟩
      case round =>
        clear hS t0
        obtain ⟨k, vO, vR, vD, vA, R, At, D, O, rfl, rfl, rfl, hk, hS, hP⟩ := hrel
        have t1 := A1.out _ hS.out.bel
        by_cases hlt : k ≤ d.gs.length
        · have hpl := hP.out.resolve_right (fun h => by omega)
          have hinv := HI.out k hlt
          rw [hpl.2] at hinv
          have hlen := hinv.len
          have hsm := hinv.small
          have hat := hinv.at_
          have hok := hinv.ok
          dsimp only at hlen hsm hat hok
          have SJ := Lib.hid (spJ_ok n5 HR.out R hat hok)
          have HP := Lib.hid hpl.2
          have HAT := Lib.hid hat; have HSM := Lib.hid hsm
          have hatl := hinv.few
          dsimp only at hatl
          clear hpl hinv hsm hat hok hP
          obtain ⟨gR', capR', hvR, _, _⟩ := own_ints hS.out.rows (by omega)
          rw [hlen] at hvR
          subst hvR
          obtain ⟨aA, cA, rfl⟩ := own_form hS.out.at_
          have i1 : (k : Int) ≤ (d.gs.length : Int) := by omega
          obtain ⟨wq, hwq⟩ : ∃ wq : World, wq = wr := ⟨_, rfl⟩
          go_wp2_with fail
          go_loopw [8, 42] (fun sd i wr => ∃ (jj : Nat) (vO vD : Value), jj ≤ At.length ∧ vD = sd ∧ i = .int .i64 jj ∧ Hid (SSt (w.heap.size + 1 + 1) (w.heap.size + 1 + 1) w1.heap.size n W0 wr vO (.slice (some ⟨gR', 0, none⟩) n capR') vD (.slice aA At.length cA) R At (spJ ts R (D, O) At jj).1 (spJ ts R (D, O) At jj).2)) (fun _ i _ => At.length - (intOf i).toNat)
          case atStart => exact ⟨0, vO, vD, Nat.zero_le _, rfl, rfl, hS⟩
          case round =>
            clear hS t1 hwq wq
            obtain ⟨jj, vO, vD, hjj, rfl, rfl, hS⟩ := hrel
            by_cases hlt2 : jj < At.length
            · obtain ⟨gA, capA, e, cq⟩ := qubit_at hS.out.at_ hlt2
              injection e with e1 _ e3
              subst e1; subst e3
              obtain ⟨q, hq⟩ : ∃ q, q = At.getD jj 0 := ⟨_, rfl⟩
              have hqn : q < n := by
                have := HAT.out (At.getD jj 0) (by rw [getD_lt hlt2]; exact List.getElem_mem hlt2)
                omega
              have HJ := Lib.hid (show spJ ts R (D, O) At (jj + 1) = ts.foldl (spT (R.getD q 0) q) (spJ ts R (D, O) At jj) from by rw [spJ_succ hlt2, ← hq]; rfl)
              rw [← hq] at cq
              clear hq
              obtain ⟨x, hx⟩ : ∃ x, x = R.getD q 0 := ⟨_, rfl⟩
              rw [← hx] at HJ
              have HX := Lib.hid hx
              have hx31 := HSM.out.get q
              rw [← hx] at hx31
              have P1 := SJ.out (jj + 1)
              rw [HJ.out] at P1
              have B1 := P1.done
              have B2 := P1.len
              clear P1 hx
              obtain ⟨s, hs⟩ : ∃ s, s = spJ ts R (D, O) At jj := ⟨_, rfl⟩
              rw [← hs] at hS HJ B1 B2
              have HS := Lib.hid hs; clear hs
              have i2 : (jj : Int) < (At.length : Int) := by omega
              go_wp2_with fail
              go_loopw [8, 48] (fun sd i wr => ∃ (m : Nat) (vO vD : Value), m ≤ ts.length ∧ vD = sd ∧ i = .int .i64 m ∧ Hid (SSt (w.heap.size + 1 + 1) (w.heap.size + 1 + 1) w1.heap.size n W0 wr vO (.slice (some ⟨gR', 0, none⟩) n capR') vD (.slice (some ⟨gA, 0, none⟩) At.length cA) R At (spM x q ts s m).1 (spM x q ts s m).2)) (fun _ i _ => ts.length - (intOf i).toNat)
              case atStart => exact ⟨0, vO, vD, Nat.zero_le _, rfl, rfl, hS⟩
              case round =>
                clear hS cq
                obtain ⟨m, vO, vD, hm, rfl, rfl, hS⟩ := hrel
                by_cases hlt3 : m < ts.length
                · obtain ⟨b0, off, rfl, hb0, u0, u1⟩ := Kc.out m hlt3
                  obtain ⟨y, hy⟩ : ∃ y, y = ts.getD m ⟨0, 0⟩ := ⟨_, rfl⟩
                  have hmem : y ∈ ts := by rw [hy]; simp [List.getD, hlt3]
                  have hyb := HT.out y hmem
                  have hst := spM_succ (x := x) (q := q) (s := s) hlt3
                  have hle := spM_le x q ts s m
                  rw [← hy] at u0 u1 hst
                  clear hy hmem
                  obtain ⟨ya, yc⟩ := y
                  dsimp only at u0 u1 hyb
                  have hbw := BW.out _ hS.out.bel
                  replace u0 := (hbw.cell hb0).trans u0; replace u1 := (hbw.cell hb0).trans u1
                  obtain ⟨s2, hs2⟩ : ∃ s2, s2 = spM x q ts s m := ⟨_, rfl⟩
                  rw [← hs2] at hS hst hle
                  have HST := Lib.hid hst
                  clear hs2 hst hbw
                  obtain ⟨D2, O2⟩ := s2
                  dsimp only at hS hle
                  have i3 : (m : Int) < (ts.length : Int) := by omega
                  have SW := Lib.hid (hS.out.call (show Below wr.heap.size wr (wr.alloc (.cells #[.int .i64 ya, .int .i64 yc] 48)) from (by repeat (first | exact Below.refl _ _ | assumption | refine Below.drew ?_ | refine below_drewN ?_ _ | refine Below.alloc ?_ (by first | omega | (simp <;> omega)) _ | refine Below.setCell ?_ (by first | omega | (simp <;> omega)) _ | refine Below.trans ?_ (Below.mono (by assumption) (by first | omega | (simp <;> omega)))))))
                  have e0 : (wr.alloc (.cells #[.int .i64 ya, .int .i64 yc] 48)).cell? ⟨wr.heap.size, 0, none⟩ = some (.int .i64 ya) := (by repeat (first | (refine Eq.trans (World.cell?_alloc_at _ _ _ _ ?hh) ?_; (case hh => (simp; done)); rfl) | refine cell_alloc_keep _ ?_))
                  have e1 : (wr.alloc (.cells #[.int .i64 ya, .int .i64 yc] 48)).cell? ⟨wr.heap.size, 1, none⟩ = some (.int .i64 yc) := (by repeat (first | (refine Eq.trans (World.cell?_alloc_at _ _ _ _ ?hh) ?_; (case hh => (simp; done)); rfl) | refine cell_alloc_keep _ ?_))
                  have cR := SW.out.cR
                  have cx := own_int_cell (OwnN.of (M := R) (by rw [hlen]; exact SW.out.rows)) q (by omega)
                  rw [← HX.out] at cx
                  have LT := Lib.hid hS.out.lt
                  have VO := Lib.hid (fun g (hg : vO.ownBlock = some g) => show g < wr.heap.size from (World.ownsRow.lt hS.out.out g hg).2)
                  have VD := Lib.hid (fun g (hg : vD.ownBlock = some g) => show g < wr.heap.size from (World.ownsRow.lt hS.out.dn g hg).2)
                  have RD := Lib.hid (show RdI _ vD (ints D2) from Rd.of_own (show OwnI _ (w.heap.size + 1 + 1) vD (ints D2) from by unfold OwnI; rw [ints_len]; exact SW.out.dn))
                  have j1 : (q : Int) < (n : Int) := by omega
                  have j2 : (0 : Int) ≤ (q : Int) := by omega
                  clear hS
                  by_cases hyx : ya = (x : Int)
                  · subst hyx
                    cases hh : hasB D2 x with
                    | true =>
                      have HM1 := Lib.hid (show spM x q ts s (m + 1) = (D2, O2) from by rw [HST.out]; unfold spT; rw [if_neg (fun h => by have := h.2; rw [hh] at this; cases this)])
                      have HH := Lib.hid hh
                      clear hh
                      go_wp2_with fail
                      go_quiet ((go_at_call 54; exact quietB (spec_l1Has_all _ D2 x _ (Rd.below RD.out (below_drewN (Below.refl _ _) _) rfl)) HH.out))
                      have SQ := Lib.hid (SW.out.call (below_drewN (Below.refl _ _) nq))
                      go_wp2_with fail
                      go_roundw
                      case rel => exact ⟨m + 1, vO, vD, by omega, rfl, by go_num, (show SSt _ _ _ _ _ _ _ _ _ _ _ _ _ _ from by rw [HM1.out]; exact SQ.out)⟩
                      case measure => simp [intOf]; omega
                    | false =>
                      have HM1 := Lib.hid (show spM x q ts s (m + 1) = (D2 ++ [x], O2 ++ rotF (q : Int) yc) from by rw [HST.out]; unfold spT; rw [if_pos ⟨rfl, hh⟩])
                      have HH := Lib.hid hh
                      clear hh
                      go_wp2_with fail
                      go_quiet ((go_at_call 54; exact quietB (spec_l1Has_all _ D2 x _ (Rd.below RD.out (below_drewN (Below.refl _ _) _) rfl)) HH.out))
                      have SQ := Lib.hid (SW.out.call (below_drewN (Below.refl _ _) nq))
                      have x0 := below_cell (below_drewN (Below.refl _ (wr.alloc (.cells #[.int .i64 (x : Int), .int .i64 yc] 48))) nq) rfl e0
                      have x1 := below_cell (below_drewN (Below.refl _ (wr.alloc (.cells #[.int .i64 (x : Int), .int .i64 yc] 48))) nq) rfl e1
                      clear RD cR cx SW e0 e1
                      generalize (wr.alloc (.cells #[.int .i64 (x : Int), .int .i64 yc] 48)).drewN nq = X at *
                      have SX := Lib.hid (SQ.out.call (show Below X.heap.size X (X.alloc (.cells #[.int .i64 (x : Int)] 3)) from (by repeat (first | exact Below.refl _ _ | assumption | refine Below.drew ?_ | refine below_drewN ?_ _ | refine Below.alloc ?_ (by first | omega | (simp <;> omega)) _ | refine Below.setCell ?_ (by first | omega | (simp <;> omega)) _ | refine Below.trans ?_ (Below.mono (by assumption) (by first | omega | (simp <;> omega)))))))
                      replace x1 := cell_alloc_keep (.cells #[.int .i64 (x : Int)] 3) x1
                      clear SQ
                      go_wp2_with (at_builtin; go_must (refine wpList_append_any _ rfl _ _ 23 rfl (w.heap.size + 1 + 1) 3 j0 (.int .i64 0) 1 8 Try.underlying23 hj hy0 hy1 hy2 rfl (by decide) _ D2.length _ rfl SX.out.dn (X.heap.size + 1) _ 1 1 [.int .i64 (x : Int)] rfl (one_reads X x) (one_one _) (by unfold maxLen; omega) (by omega) SX.out.lt.2.2 ?_; intro v3 w4 hown3 hg3 hat3; have S4 := Lib.hid (SSt.appD (x := x) SX.out (by simpa using hown3) hg3 hat3); replace x1 := cell_grown hg3 x1 (fun e => by have := VD.out _ e; omega); clear hown3 hg3 hat3 SX x0))
                      have HD := Lib.hid (S4.out.call (show Below w4.heap.size w4 w4.drew from (by repeat (first | exact Below.refl _ _ | assumption | refine Below.drew ?_ | refine below_drewN ?_ _ | refine Below.alloc ?_ (by first | omega | (simp <;> omega)) _ | refine Below.setCell ?_ (by first | omega | (simp <;> omega)) _ | refine Below.trans ?_ (Below.mono (by assumption) (by first | omega | (simp <;> omega)))))))
                      have k0 := HD.out.cO
                      replace x1 := cell_drew x1
                      have fO := HD.out.fO
                      obtain ⟨aO, cO, rfl⟩ := own_form HD.out.out
                      clear S4
                      refine AnyB.begin (S := (fun w' => w'.cell? ⟨w.heap.size + 1 + 1, 1, none⟩ = some (.slice aO O2.length cO) ∧ w'.cell? ⟨wr.heap.size, 1, none⟩ = some (.int .i64 yc))) [8] (by kernel_rfl) ?_ (fun hHeld0 => ?_)
                      · ((try dsimp only); (first | exact ⟨k0, x1⟩))
                      refine AnyB.takeQ (i := 0) (oi := _) (v := ?_) (by simp only [List.getElem?_toArray, List.getElem?_cons_zero, List.getElem?_cons_succ]; rfl) (by kernel_rfl) (by kernel_rfl) (by kernel_rfl) (by intro _ _ _ h; exact h) (Or.inl ⟨by rfl, ?_⟩) ?_
                      rotate_left
                      · (intro w hSw; (try dsimp only at hSw); go_simp; (try (with_reducible rfl)))
                      try simp only [Act.put, List.setIfInBounds_toArray, List.set_cons_zero, List.set_cons_succ]
                      refine AnyB.take (i := 1) (oi := _) (v := ?_) (by simp only [List.getElem?_toArray, List.getElem?_cons_zero, List.getElem?_cons_succ]; rfl) (by kernel_rfl) (by kernel_rfl) (by kernel_rfl) (by kernel_rfl) (by kernel_rfl) (by intro _ _ _ h; exact h) (Or.inl ⟨by rfl, ?_⟩) (by assumption) ?_
                      rotate_left
                      · (intro w hSw; (try dsimp only at hSw); go_simp; (try (with_reducible rfl)))
                      try simp only [Act.put, List.setIfInBounds_toArray, List.set_cons_zero, List.set_cons_succ]
                      refine AnyB.takeQ (i := 2) (oi := _) (v := ?_) (by simp only [List.getElem?_toArray, List.getElem?_cons_zero, List.getElem?_cons_succ]; rfl) (by kernel_rfl) (by kernel_rfl) (by kernel_rfl) (by intro _ _ _ h; exact h) (Or.inl ⟨by rfl, ?_⟩) ?_
                      rotate_left
                      · (intro w hSw; (try dsimp only at hSw); go_simp; (try (with_reducible rfl)))
                      try simp only [Act.put, List.setIfInBounds_toArray, List.set_cons_zero, List.set_cons_succ]
                      refine AnyB.takeQ (i := 3) (oi := _) (v := ?_) (by simp only [List.getElem?_toArray, List.getElem?_cons_zero, List.getElem?_cons_succ]; rfl) (by kernel_rfl) (by kernel_rfl) (by kernel_rfl) (by intro _ _ _ h; exact h) (Or.inl ⟨by rfl, ?_⟩) ?_
                      rotate_left
                      · (intro w hSw; (try dsimp only at hSw); go_simp; (try (with_reducible rfl)))
                      try simp only [Act.put, List.setIfInBounds_toArray, List.set_cons_zero, List.set_cons_succ]
                      refine AnyB.take (i := 4) (oi := _) (v := ?_) (by simp only [List.getElem?_toArray, List.getElem?_cons_zero, List.getElem?_cons_succ]; rfl) (by kernel_rfl) (by kernel_rfl) (by kernel_rfl) (by kernel_rfl) (by kernel_rfl) (by intro _ _ _ h; exact h) (Or.inl ⟨by rfl, ?_⟩) (by assumption) ?_
                      rotate_left
                      · (intro w hSw; (try dsimp only at hSw); go_simp; (try (with_reducible rfl)))
                      try simp only [Act.put, List.setIfInBounds_toArray, List.set_cons_zero, List.set_cons_succ]
                      refine AnyB.each (rs := [5]) (by kernel_rfl) (by simp) ?_
                      refine EachB.cons rfl (fun K hK hB => ?_) ?_
                      · skip
                        (go_simp; go_at_call 55; refine (spec_l13Rotation_any (q : Int) yc _ hyb.1 hyb.2).mono ?_; rintro e w5 ⟨v5, rfl, ho5, hb5⟩; obtain ⟨a5, c5, rfl⟩ := ho5.forms; have RR := Lib.hid (Reads.of_rd ho5.rd); have H5 := Lib.hid (HD.out.call hb5); replace x1 := below_cell hb5 rfl x1; clear hb5 ho5 HD k0 fO; have k0 := H5.out.cO; dsimp only)
                        refine hK.out _ _ ?_ (fun hHeld1 => ?_)
                        · ((try dsimp only); (first | exact ⟨k0, x1⟩))
                        clear hB hK K hHeld0
                        refine AnyB.each (rs := [6]) (by kernel_rfl) (by simp) ?_
                        refine EachB.cons rfl (fun K hK hB => ?_) ?_
                        · skip
                          (refine step_append_any _ (by rfl) (.tmp 73) (.tmp 77) 29 (by rfl) (w.heap.size + 1 + 1) 58 i0 (.agg #[.int .i64 0, .int .i64 0, .int .i64 0]) 3 24 Try.underlying29 hi hz0 hz1 hz2 rfl (by omega) _ O2.length _ (by rfl) H5.out.out w5.heap.size a5 (rotF (q : Int) yc).length c5 _ (by rfl) RR.out (flat_one E3.one _) (by have := rotF_len (q : Int) yc; unfold maxLen; omega) (by have := rotF_len (q : Int) yc; omega) H5.out.lt.2.2 ?_; intro v6 w6 hown6 hg6 hat6; obtain ⟨a6, c6, rfl⟩ := own_form hown6; obtain ⟨d6, e6, hST⟩ := SSt.appO H5.out rfl hown6 hg6 hat6; have H6 := Lib.hid hST; replace x1 := cell_grown hg6 x1 (fun e => by have := VO.out _ e; omega); clear hown6 hg6 hat6 hST H5 RR k0; have k0 := d6)
                          refine hK.out _ _ ?_ (fun hHeld2 => ?_)
                          · ((try dsimp only); (first | exact ⟨k0, x1⟩))
                          clear hB hK K hHeld1
                          refine AnyB.takeQ (i := 7) (oi := _) (v := ?_) (by simp only [List.getElem?_toArray, List.getElem?_cons_zero, List.getElem?_cons_succ]; rfl) (by kernel_rfl) (by kernel_rfl) (by kernel_rfl) (by intro _ _ _ h; exact h) (Or.inl ⟨by rfl, ?_⟩) ?_
                          rotate_left
                          · (intro w hSw; (try dsimp only at hSw); go_simp; (try (with_reducible rfl)))
                          try simp only [Act.put, List.setIfInBounds_toArray, List.set_cons_zero, List.set_cons_succ]
                          refine AnyB.each (rs := [8]) (by kernel_rfl) (by simp) ?_
                          refine EachB.cons rfl (fun K hK hB => ?_) ?_
                          · skip
                            go_simp
                            refine hB.out _ _ rfl ?_
                            clear hB hK K
                            refine AnyB.none (by kernel_rfl) ?_ _
                            clear k0 x1 d6 e6
                            go_wp2_with fail
                            go_roundw
                            case rel => exact ⟨m + 1, _, _, by omega, rfl, by go_num, (show SSt _ _ _ _ _ _ _ _ _ _ _ _ _ _ from by rw [HM1.out]; exact H6.out)⟩
                            case measure => simp [intOf]; omega
                          exact EachB.nil
                        exact EachB.nil
                      exact EachB.nil
                  · have d1 : (ya == (x : Int)) = false := by simpa using hyx
                    have HM1 := Lib.hid (show spM x q ts s (m + 1) = (D2, O2) from by rw [HST.out]; unfold spT; rw [if_neg (fun h => hyx h.1)])
                    clear hyx RD
                    go_wp2_with fail
                    go_quiet (fail)
                    have SQ := Lib.hid (SW.out.call (below_drewN (Below.refl _ _) nq))
                    go_wp2_with fail
                    go_roundw
                    case rel => exact ⟨m + 1, vO, vD, by omega, rfl, by go_num, (show SSt _ _ _ _ _ _ _ _ _ _ _ _ _ _ from by rw [HM1.out]; exact SQ.out)⟩
                    case measure => simp [intOf]; omega
                · have i3 : ¬ (m : Int) < (ts.length : Int) := by omega
                  have HE := Lib.hid (show spM x q ts s m = spJ ts R (D, O) At (jj + 1) from by rw [HJ.out, HS.out]; exact spM_end (by omega))
                  go_wp2_with fail
                  go_roundw
                  case rel => exact ⟨jj + 1, vO, vD, by omega, rfl, by go_num, (show SSt _ _ _ _ _ _ _ _ _ _ _ _ _ _ from by rw [← HE.out]; exact hS.out)⟩
                  case measure => simp [intOf]; omega
            · have i2 : ¬ (jj : Int) < (At.length : Int) := by omega
              have HE := Lib.hid (show spJ ts R (D, O) At jj = (plTo n d.gs ts k).place ts from by rw [HP.out]; exact spJ_end (by omega))
              have hb := SJ.out jj
              have hb1 := hb.done
              have hb2 := hb.len
              clear hb
              obtain ⟨s, hs⟩ : ∃ s, s = spJ ts R (D, O) At jj := ⟨_, rfl⟩
              rw [← hs] at hS HE hb1 hb2
              clear hs
              obtain ⟨D2, O2⟩ := s
              dsimp only at hS hb1 hb2
              have t1 := A1.out _ hS.out.bel
              by_cases hlt4 : k < d.gs.length
              · have i4 : (k : Int) < (d.gs.length : Int) := by omega
                have i5 : (0 : Int) ≤ (k : Int) := by omega
                obtain ⟨b0, off, rfl, hb0, u0, u1, u2⟩ := Hc.out k hlt4
                obtain ⟨a, b, hg, ha, hb, hab⟩ := net_gate HB.out hlt4
                rw [HN.out] at ha hb
                have hst := plTo_succ (n := n) (ts := ts) hlt4
                rw [hg] at u0 u1 u2 hst
                have HST := Lib.hid (show plTo n d.gs ts (k + 1) = ⟨cxN R a b, [b], D2, O2 ++ [⟨9, (a : Int), (b : Int)⟩]⟩ from by rw [hst]; unfold PlS.next; rw [← HE.out, HP.out]; simp)
                have hbw := BW.out _ hS.out.bel
                replace u0 := (hbw.cell hb0).trans u0; replace u1 := (hbw.cell hb0).trans u1; replace u2 := (hbw.cell hb0).trans u2
                clear hst hg hbw HE HP
                have SG := Lib.hid (hS.out.call (show Below wr.heap.size wr (wr.alloc (.cells #[.int .i64 9, .int .i64 (a : Int), .int .i64 (b : Int)] 58)) from (by repeat (first | exact Below.refl _ _ | assumption | refine Below.drew ?_ | refine below_drewN ?_ _ | refine Below.alloc ?_ (by first | omega | (simp <;> omega)) _ | refine Below.setCell ?_ (by first | omega | (simp <;> omega)) _ | refine Below.trans ?_ (Below.mono (by assumption) (by first | omega | (simp <;> omega)))))))
                have e0 : (wr.alloc (.cells #[.int .i64 9, .int .i64 (a : Int), .int .i64 (b : Int)] 58)).cell? ⟨wr.heap.size, 0, none⟩ = some (.int .i64 9) := (by repeat (first | (refine Eq.trans (World.cell?_alloc_at _ _ _ _ ?hh) ?_; (case hh => (simp; done)); rfl) | refine cell_alloc_keep _ ?_))
                have e1 : (wr.alloc (.cells #[.int .i64 9, .int .i64 (a : Int), .int .i64 (b : Int)] 58)).cell? ⟨wr.heap.size, 1, none⟩ = some (.int .i64 (a : Int)) := (by repeat (first | (refine Eq.trans (World.cell?_alloc_at _ _ _ _ ?hh) ?_; (case hh => (simp; done)); rfl) | refine cell_alloc_keep _ ?_))
                have e2 : (wr.alloc (.cells #[.int .i64 9, .int .i64 (a : Int), .int .i64 (b : Int)] 58)).cell? ⟨wr.heap.size, 2, none⟩ = some (.int .i64 (b : Int)) := (by repeat (first | (refine Eq.trans (World.cell?_alloc_at _ _ _ _ ?hh) ?_; (case hh => (simp; done)); rfl) | refine cell_alloc_keep _ ?_))
                have LT := Lib.hid hS.out.lt
                have VO := Lib.hid (fun g (hg : vO.ownBlock = some g) => show g < wr.heap.size from (World.ownsRow.lt hS.out.out g hg).2)
                have hnb : w.heap.size + 1 + 1 < wr.heap.size := LT.out.1
                have hn7 : w1.heap.size < wr.heap.size := LT.out.2.1
                obtain ⟨aO, cO, rfl⟩ := own_form hS.out.out
                have hsX : Hid (wr.heap.size < (wr.alloc (.cells #[.int .i64 9, .int .i64 (a : Int), .int .i64 (b : Int)] 58)).heap.size) := (show _ < _ by simp)
                clear hS
                have kO := SG.out.cO
                have SX := Lib.hid (SG.out.call (show Below (wr.alloc (.cells #[.int .i64 9, .int .i64 (a : Int), .int .i64 (b : Int)] 58)).heap.size _ ((wr.alloc (.cells #[.int .i64 9, .int .i64 (a : Int), .int .i64 (b : Int)] 58)).alloc (.cells #[.int .i64 9, .int .i64 (a : Int), .int .i64 (b : Int)] 58)) from Below.alloc (Below.refl _ _) (Nat.le_refl _) _))
                have y1 := cell_alloc_keep (.cells #[.int .i64 9, .int .i64 (a : Int), .int .i64 (b : Int)] 58) e1
                have y2 := cell_alloc_keep (.cells #[.int .i64 9, .int .i64 (a : Int), .int .i64 (b : Int)] 58) e2
                go_wp2_with (at_builtin; go_must (refine wpList_append_any _ rfl _ _ 29 rfl (w.heap.size + 1 + 1) 58 i0 (.agg #[.int .i64 0, .int .i64 0, .int .i64 0]) 3 24 Try.underlying29 hi hz0 hz1 hz2 rfl (by decide) _ O2.length _ rfl SX.out.out ((wr.alloc (.cells #[.int .i64 9, .int .i64 (a : Int), .int .i64 (b : Int)] 58)).heap.size + 1) _ 1 1 (E3.cs ⟨9, (a : Int), (b : Int)⟩) rfl (by have := reads_news (wr.alloc (.cells #[.int .i64 9, .int .i64 (a : Int), .int .i64 (b : Int)] 58)) (E3.cs ⟨9, (a : Int), (b : Int)⟩) 58 3 1 rfl; simpa [E3.cs] using this) (E3.one _) (by unfold maxLen; omega) (by omega) SX.out.lt.2.2 ?_; intro v3 w4 hown3 hg3 hat3; obtain ⟨a3, c3', rfl⟩ := own_form hown3; obtain ⟨d4, f4, hST⟩ := SSt.appO (rot := [⟨9, (a : Int), (b : Int)⟩]) SX.out rfl (by simpa using hown3) hg3 hat3; have S4 := Lib.hid hST; have y3 := cell_set_far (b := wr.heap.size) (nb := w.heap.size + 1 + 1) (o2 := 1) (v := .slice a3 (O2.length + 1) c3') (by omega) (cell_grown hg3 y1 (fun e => by have := VO.out _ e; omega)); have y4 := cell_set_far (b := wr.heap.size) (nb := w.heap.size + 1 + 1) (o2 := 1) (v := .slice a3 (O2.length + 1) c3') (by omega) (cell_grown hg3 y2 (fun e => by have := VO.out _ e; omega)); have k7 := S4.out.cR; clear hST hown3 hg3 hat3 e0 e1 e2 y1 y2 kO SX SG))
                generalize (w4.setCell ⟨w.heap.size + 1 + 1, 1, none⟩ (.slice a3 (O2.length + 1) c3')) = X at *
                refine (spec_l12CX_any _ R a b _ S4.out.rows.rd HSM.out (by omega) (by omega) (by omega)).mono ?_; rintro e w5 ⟨v5, rfl, ho5, hb5⟩
                obtain ⟨g5, c5, hv5, _, _⟩ := own_ints ho5 (by rw [cxN_len]; omega)
                rw [cxN_len, hlen] at hv5
                subst hv5
                have S5 := Lib.hid (S4.out.setR hb5 ho5)
                have k8 := (S4.out.call hb5).cR
                have f8 := (S4.out.call hb5).fR
                replace y4 := cell_set_far (b := wr.heap.size) (nb := w1.heap.size) (o2 := 0) (v := .slice (some ⟨g5, 0, none⟩) n c5) (by omega) (below_cell hb5 rfl y4)
                have S6 := Lib.hid (S5.out.newA (b := b))
                have hz5 : (w5.setCell ⟨w1.heap.size, 0, none⟩ (.slice (some ⟨g5, 0, none⟩) n c5)).heap.size = w5.heap.size := by simp
                rw [hz5] at S6
                clear hz5
                clear hb5 ho5 S4 k7 y3 d4 f4
                go_wp2_with fail
                go_roundw
                case rel => exact ⟨k + 1, _, _, _, _, _, _, _, _, rfl, rfl, by go_num, by omega, S6.out, (show _ ∨ _ from .inl ⟨by omega, HST.out⟩)⟩
                case measure => simp [intOf]; omega
              · have HE2 := Lib.hid (show plEnd n d.gs ts = (D2, O2) from by unfold plEnd; rw [show d.gs.length = k from by omega]; exact HE.out.symm)
                have i4 : ¬ (k : Int) < (d.gs.length : Int) := by omega
                go_wp2_with fail
                go_roundw
                case rel => exact ⟨k + 1, _, _, _, _, _, _, _, _, rfl, rfl, by go_num, by omega, hS, (show _ ∨ _ from .inr ⟨by omega, HE2.out⟩)⟩
                case measure => simp [intOf]; omega
        · have hpl := hP.out.resolve_left (fun h => by omega)
          have HE := Lib.hid hpl.2
          clear hpl hP
          have c0 := hS.out.c0
          have cO := hS.out.cO
          obtain ⟨aO, cO', rfl⟩ := own_form hS.out.out
          have r0 := R0.out _ hS.out.bel
          have r1 := R1.out _ hS.out.bel
          obtain ⟨f0, f1⟩ := F0.out _ hS.out.bel
          obtain ⟨aD, cD, rfl⟩ := own_form hS.out.dn
          have i1 : ¬ (k : Int) ≤ (d.gs.length : Int) := by omega
          go_wp2_with fail
          have hZ := box_set2 (nb := w.heap.size + 1) (.int .i64 (n : Int)) (.slice aO O.length cO') r0 r1
          exact bodyPost_ret (v := .tuple #[.agg #[.int .i64 (n : Int), .slice aO O.length cO'], .int .i64 (D.length : Int)]) (by simp [results, Try.results21, go_sem, hZ]) rfl ⟨_, by rw [HE.out], by rw [HE.out]; exact (show OwnE _ _ _ _ _ _ _ from own_le (own_set_ne (own_set_ne hS.out.out (fun g e => by have := (World.ownsRow.lt hS.out.out g e).1; dsimp only; omega) _) (fun g e => by have := (World.ownsRow.lt hS.out.out g e).1; dsimp only; omega) _) (by omega)), Below.setCell (Below.setCell (BW.out _ hS.out.bel) (by dsimp only; omega) _) (by dsimp only; omega) _⟩
end Go.Proofs.Ytbcjligkjoimmaa
namespace Go.Proofs.Ytbcjligkjoimmaa
set_option linter.unusedSimpArgs false
set_option linter.unusedVariables false
set_option linter.unnecessarySimpa false
set_option maxRecDepth 200000
open Go.ChangeShapes Go.WideShapes Go.ChangeAt Go.RowKit

/-- The rank, counted. -/
def rkC : Nat → Nat → List Nat → Nat
  | 0, _, _ => 0
  | f + 1, b, L => match L.find? (fun p => p.testBit b) with
    | some p => rkC f (b + 1) (L.map (piv b p)) + 1
    | none => rkC f (b + 1) L
theorem rkC_rank : ∀ (f b : Nat) (L : List Nat), Rank f b L (rkC f b L)
  | 0, b, L => .nil
  | f + 1, b, L => by
    unfold rkC
    split
    · next p h =>
      have hp := List.find?_some h
      have hm := List.mem_of_find?_eq_some h
      exact .take hp (fun r => ⟨.inr, fun h => h.elim (fun e => e ▸ hm) id⟩) (rkC_rank f (b + 1) _)
    · next h =>
      exact .skip (fun r hr => by have := List.find?_eq_none.1 h r hr; simpa using this) (rkC_rank f (b + 1) L)
theorem rk_rkC (L : List Nat) : rk L = rkC 10 0 L := (rk_eq ⟨rkC 10 0 L, rkC_rank 10 0 L, (Nat.zero_add _).symm⟩).symm
theorem id_ok {n : Nat} (h1 : 1 ≤ n) (h5 : n ≤ 5) : LinOk (idRows n) := by
  refine ⟨by rw [idRows_len]; exact ⟨h1, h5⟩, ?_, ?_⟩
  · rw [idRows_len]
    have : n = 1 ∨ n = 2 ∨ n = 3 ∨ n = 4 ∨ n = 5 := by omega
    rcases this with rfl | rfl | rfl | rfl | rfl <;> decide +kernel
  · rw [idRows_len]
    unfold rkI
    rw [rk_rkC]
    have : n = 1 ∨ n = 2 ∨ n = 3 ∨ n = 4 ∨ n = 5 := by omega
    rcases this with rfl | rfl | rfl | rfl | rfl <;> decide +kernel
end Go.Proofs.Ytbcjligkjoimmaa
