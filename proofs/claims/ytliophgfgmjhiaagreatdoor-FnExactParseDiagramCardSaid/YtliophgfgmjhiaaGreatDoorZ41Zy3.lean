/- The text of a diagram: the program. -/
import Derived.Test.YtliophgfgmjhiaaGreatDoorZ39Zy2
import Derived.Test.YtliophgfgmjhiaaGreatDoorZ04Brk
import Derived.BigRegion
import Derived.BigQuiet
import Derived.Deep.DeepCutAuto
namespace Go.Proofs.YtliophgfgmjhiaaGreatDoor
set_option linter.unusedSimpArgs false
set_option linter.unusedVariables false
set_option linter.unnecessarySimpa false
set_option maxRecDepth 200000
open Go.ChangeShapes Go.WideShapes Go.ChangeAt Go.RowKit

theorem impl_FormatDiagram_no (d : Dia) (v0 v1 : Value) (w : World) (h0 : RdE w v0 E2.cs 2 d.ns) (h1 : RdE w v1 EW.cs 3 d.ws) (n0 : d.ns.length ≤ 2097152) (n1 : d.ws.length ≤ 2097152) (hg : ¬ GoodS d) :
    Calls Tryz.prog 14 #[.agg #[.int .i64 d.n, v0, v1, .int .i64 d.turn, .int .i64 d.root]] w fun e w' => e = .returned (.tuple #[.string ⟨#[]⟩, .bool false]) ∧ Below w.heap.size w w' := by
  have H0 := Lib.hid h0; have H1 := Lib.hid h1
  obtain ⟨A, c, rfl, _⟩ := e2_at h0
  obtain ⟨A1, c1, rfl, _⟩ := eW_at h1
  clear h0 h1
  have D := Lib.hid (decide_eq_false (fun h => hg ((good_same d).2 h)))
  clear hg
  go_enter Tryz.func14, Tryz.ntmps14
  go_wp2_with fail
  refine (impl_IsValidDiagram_any d _ _ _ (Rd.below H0.out (show Below w.heap.size w _ from (by repeat (first | exact Below.refl _ _ | assumption | refine Below.drew ?_ | refine below_drewN ?_ _ | refine Below.alloc ?_ (by first | omega | (simp <;> omega)) _ | refine Below.setCell ?_ (by first | omega | (simp <;> omega)) _ | refine Below.trans ?_ (Below.mono (by assumption) (by first | omega | (simp <;> omega)))))) rfl) (Rd.below H1.out (show Below w.heap.size w _ from (by repeat (first | exact Below.refl _ _ | assumption | refine Below.drew ?_ | refine below_drewN ?_ _ | refine Below.alloc ?_ (by first | omega | (simp <;> omega)) _ | refine Below.setCell ?_ (by first | omega | (simp <;> omega)) _ | refine Below.trans ?_ (Below.mono (by assumption) (by first | omega | (simp <;> omega)))))) rfl) n0 n1).mono ?_; rintro e w1 ⟨rfl, hb1⟩; rw [D.out]
  have B := Lib.hid (Below.trans (show Below w.heap.size w _ from (by repeat (first | exact Below.refl _ _ | assumption | refine Below.drew ?_ | refine below_drewN ?_ _ | refine Below.alloc ?_ (by first | omega | (simp <;> omega)) _ | refine Below.setCell ?_ (by first | omega | (simp <;> omega)) _ | refine Below.trans ?_ (Below.mono (by assumption) (by first | omega | (simp <;> omega)))))) (hb1.mono (by simp)))
  clear hb1
  go_wp2_with fail
  go_ret2
  exact ⟨rfl, B.out⟩
theorem impl_small_any (b : Bool) (w : World) : Calls Tryz.prog 34 #[.bool b] w fun e w' => e = .returned (.int .i64 (if b = true then 1 else 0)) ∧ w' = w := by
  cases b with
  | true =>
    go_enter Tryz.func34, Tryz.ntmps34
    go_wp2_with fail
    go_ret
    exact ⟨rfl, rfl⟩
  | false =>
    go_enter Tryz.func34, Tryz.ntmps34
    go_wp2_with fail
    go_ret
    exact ⟨rfl, rfl⟩
theorem apart_zz {w : World} {vO vN : Value} {g n c : Nat} (h : Apart vO vN) (hb : ∀ g, vN.ownBlock = some g → g < w.heap.size) (hat : vO.ownBlock = some g ∨ g = w.heap.size) : Apart (.slice (some ⟨g, 0, none⟩) n c) vN := by
  intro g2 hg2 e
  have e1 : g = g2 := by simpa [Value.ownBlock] using hg2
  subst e1
  rcases hat with h9 | h9
  · exact h g h9 e
  · have := hb g e; omega
theorem lit_three (w : World) (a b d : Int) (B : Nat) (hB : w.heap.size = B) : RdI (w.alloc (.cells #[.int .i64 a, .int .i64 b, .int .i64 d] 3)) (.slice (some ⟨B, 0, none⟩) 3 3) [a, b, d] := by
  subst hB
  refine ⟨rfl, .inr ⟨w.heap.size, 0, 3, rfl, by simp, Nat.le_refl _, by decide, fun j u hj => ?_⟩⟩
  match j, hj with
  | 0, hj => simp at hj; subst hj; exact (by repeat (first | (refine Eq.trans (World.cell?_alloc_at _ _ _ _ ?hh) ?_; (case hh => (simp; done)); rfl) | refine cell_alloc_keep _ ?_))
  | 1, hj => simp at hj; subst hj; exact (by repeat (first | (refine Eq.trans (World.cell?_alloc_at _ _ _ _ ?hh) ?_; (case hh => (simp; done)); rfl) | refine cell_alloc_keep _ ?_))
  | 2, hj => simp at hj; subst hj; exact (by repeat (first | (refine Eq.trans (World.cell?_alloc_at _ _ _ _ ?hh) ?_; (case hh => (simp; done)); rfl) | refine cell_alloc_keep _ ?_))
theorem grown_ne {w w' : World} {v u : Value} {b o : Nat} (hg : w.grownBy w' v.ownBlock) (hne : ∀ g, v.ownBlock = some g → g < b) (hc : w.cell? ⟨b, o, none⟩ = some u) : w'.cell? ⟨b, o, none⟩ = some u := by
  have hb := hg.block b (World.block_lt_of_cell? _ _ hc) (fun h => by have := hne b h.symm; omega)
  rw [World.cell?_of_block (w := w) (w' := w') (a := ⟨b, o, none⟩) hb]; exact hc
theorem grown_zy {w w' : World} {v u : Value} {base sz n b o : Nat} {e : TypeId} {xs : List Value} (hown : w.ownsRow base e sz v n xs) (hg : w.grownBy w' v.ownBlock) (hlt : b < base) (hc : w.cell? ⟨b, o, none⟩ = some u) : w'.cell? ⟨b, o, none⟩ = some u := by
  have hb := hg.block b (World.block_lt_of_cell? _ _ hc) (fun h => by have := (World.ownsRow.lt hown b h.symm).1; omega)
  rw [World.cell?_of_block (w := w) (w' := w') (a := ⟨b, o, none⟩) hb]; exact hc
theorem apart_zy {w : World} {vO v' : Value} {g : Nat} {s : Nat} (h : Apart vO (.slice (some ⟨g, 0, none⟩) 0 s)) (hb : g < w.heap.size) (hat : v'.ownBlock = vO.ownBlock ∨ v'.ownBlock = some w.heap.size) : Apart v' (.slice (some ⟨g, 0, none⟩) 0 s) := by
  intro g2 hg2 e
  have e : g = g2 := by simpa [Value.ownBlock] using e
  subst e
  rcases hat with h9 | h9
  · exact h g (by rw [← h9]; exact hg2) rfl
  · rw [hg2] at h9; injection h9 with h9; omega
set_option maxHeartbeats 16000000 in
theorem impl_FormatDiagram_yes (d : Dia) (v0 v1 : Value) (w : World) (h0 : RdE w v0 E2.cs 2 d.ns) (h1 : RdE w v1 EW.cs 3 d.ws) (n0 : d.ns.length ≤ 2097152) (n1 : d.ws.length ≤ 2097152) (hg : GoodS d) (hst : Strc w) :
    Calls Tryz.prog 14 #[.agg #[.int .i64 d.n, v0, v1, .int .i64 d.turn, .int .i64 d.root]] w fun e w' => e = .returned (.tuple #[.string (diaT d), .bool true]) ∧ Below w.heap.size w w' := by
  have hx0 : ∀ w : World, (Instr.index 64 (.agg #[.string ⟨#[45]⟩, .string ⟨#[105]⟩, .string ⟨#[111]⟩, .string ⟨#[122]⟩]) (.int .i64 0)).run Tryz.prog w = .ok (.string ⟨#[45]⟩) w := fun _ => (by kernel_rfl)
  have hx1 : ∀ w : World, (Instr.index 64 (.agg #[.string ⟨#[45]⟩, .string ⟨#[105]⟩, .string ⟨#[111]⟩, .string ⟨#[122]⟩]) (.int .i64 1)).run Tryz.prog w = .ok (.string ⟨#[105]⟩) w := fun _ => (by kernel_rfl)
  have hx2 : ∀ w : World, (Instr.index 64 (.agg #[.string ⟨#[45]⟩, .string ⟨#[105]⟩, .string ⟨#[111]⟩, .string ⟨#[122]⟩]) (.int .i64 2)).run Tryz.prog w = .ok (.string ⟨#[111]⟩) w := fun _ => (by kernel_rfl)
  have hx3 : ∀ w : World, (Instr.index 64 (.agg #[.string ⟨#[45]⟩, .string ⟨#[105]⟩, .string ⟨#[111]⟩, .string ⟨#[122]⟩]) (.int .i64 3)).run Tryz.prog w = .ok (.string ⟨#[122]⟩) w := fun _ => (by kernel_rfl)
  obtain ⟨i0, hi, hz0, hz1, hz2⟩ := info_parts info_str
  have H0 := Lib.hid h0; have H1 := Lib.hid h1
  obtain ⟨A, c, rfl, HN⟩ := e2_at h0
  obtain ⟨A1, c1, rfl, HW⟩ := eW_at h1
  clear h0 h1
  have D := Lib.hid (decide_eq_true ((good_same d).1 hg))
  have HG := Lib.hid hg
  have HST := Lib.hid hst
  obtain ⟨h1, h2, h3, h4⟩ := hg.1
  have HV := Lib.hid (fun (v0 v1 : Value) (w : World) h0 h1 => impl_IsValidDiagram_any d v0 v1 w h0 h1 n0 n1)
  clear hg hst
  obtain ⟨n, hn⟩ : ∃ n : Nat, d.n = (n : Int) := ⟨d.n.toNat, by omega⟩
  obtain ⟨u, hu⟩ : ∃ n : Nat, d.turn = (n : Int) := ⟨d.turn.toNat, by omega⟩
  obtain ⟨r, hr⟩ : ∃ r, r = d.root := ⟨_, rfl⟩
  have HHZ := Lib.hid (show headZ d = numB n ++ ⟨#[59]⟩ ++ numB u ++ ⟨#[59]⟩ ++ intB r ++ ⟨#[59]⟩ from by unfold headZ; rw [hn, hu, hr]; rfl)
  have ln : n < 100 := by omega
  have lu : u < 100 := by omega
  have lr0 : -100 < r := by omega
  have lr1 : r < 100 := by omega
  rw [hn, hu, ← hr] at HV ⊢
  clear h1 h3 h4 hn hu hr
  go_enter Tryz.func14, Tryz.ntmps14
  go_wp2_with fail
  refine (HV.out _ _ _ (Rd.below H0.out (show Below w.heap.size w _ from (by repeat (first | exact Below.refl _ _ | assumption | refine Below.drew ?_ | refine below_drewN ?_ _ | refine Below.alloc ?_ (by first | omega | (simp <;> omega)) _ | refine Below.setCell ?_ (by first | omega | (simp <;> omega)) _ | refine Below.trans ?_ (Below.mono (by assumption) (by first | omega | (simp <;> omega)))))) rfl) (Rd.below H1.out (show Below w.heap.size w _ from (by repeat (first | exact Below.refl _ _ | assumption | refine Below.drew ?_ | refine below_drewN ?_ _ | refine Below.alloc ?_ (by first | omega | (simp <;> omega)) _ | refine Below.setCell ?_ (by first | omega | (simp <;> omega)) _ | refine Below.trans ?_ (Below.mono (by assumption) (by first | omega | (simp <;> omega)))))) rfl)).mono ?_; rintro e w1 ⟨rfl, hb1⟩; rw [D.out]
  have BW := Lib.hid (Below.trans (show Below w.heap.size w _ from (by repeat (first | exact Below.refl _ _ | assumption | refine Below.drew ?_ | refine below_drewN ?_ _ | refine Below.alloc ?_ (by first | omega | (simp <;> omega)) _ | refine Below.setCell ?_ (by first | omega | (simp <;> omega)) _ | refine Below.trans ?_ (Below.mono (by assumption) (by first | omega | (simp <;> omega)))))) (hb1.mono (by simp)))
  have x0 : w1.cell? ⟨w.heap.size, 0, none⟩ = some (.int .i64 (n : Int)) := bel_z7 hb1 (by repeat (first | (refine Eq.trans (World.cell?_alloc_at _ _ _ _ ?hh) ?_; (case hh => (simp; done)); rfl) | refine cell_alloc_keep _ ?_))
  have x1 : w1.cell? ⟨w.heap.size, 1, none⟩ = some (.slice A d.ns.length c) := bel_z7 hb1 (by repeat (first | (refine Eq.trans (World.cell?_alloc_at _ _ _ _ ?hh) ?_; (case hh => (simp; done)); rfl) | refine cell_alloc_keep _ ?_))
  have x2 : w1.cell? ⟨w.heap.size, 2, none⟩ = some (.slice A1 d.ws.length c1) := bel_z7 hb1 (by repeat (first | (refine Eq.trans (World.cell?_alloc_at _ _ _ _ ?hh) ?_; (case hh => (simp; done)); rfl) | refine cell_alloc_keep _ ?_))
  have x3 : w1.cell? ⟨w.heap.size, 3, none⟩ = some (.int .i64 (u : Int)) := bel_z7 hb1 (by repeat (first | (refine Eq.trans (World.cell?_alloc_at _ _ _ _ ?hh) ?_; (case hh => (simp; done)); rfl) | refine cell_alloc_keep _ ?_))
  have x4 : w1.cell? ⟨w.heap.size, 4, none⟩ = some (.int .i64 r) := bel_z7 hb1 (by repeat (first | (refine Eq.trans (World.cell?_alloc_at _ _ _ _ ?hh) ?_; (case hh => (simp; done)); rfl) | refine cell_alloc_keep _ ?_))
  have z1 : w.heap.size + 1 ≤ w1.heap.size := by have := hb1.size; simp at this; omega
  clear hb1
  have OA := Lib.hid (World.ownsRow.alloc (show (w1.alloc (.cells #[] 9)).ownsRow (w.heap.size + 1) 9 1 (.slice (some ⟨w1.heap.size, 0, none⟩) 0 0) 0 [] from own_lit0 (f := wcs) (sz := 1) w1 (w.heap.size + 1) 9 w1.heap.size rfl z1) (.cells #[] 9))
  have OB := Lib.hid (show ((w1.alloc (.cells #[] 9)).alloc (.cells #[] 9)).ownsRow (w.heap.size + 1) 9 1 (.slice (some ⟨w1.heap.size + 1, 0, none⟩) 0 0) 0 [] from own_lit0 (f := wcs) (sz := 1) (w1.alloc (.cells #[] 9)) (w.heap.size + 1) 9 (w1.heap.size + 1) (by simp) (by omega))
  have AP := Lib.hid (show Apart (.slice (some ⟨w1.heap.size, 0, none⟩) 0 0) (.slice (some ⟨w1.heap.size + 1, 0, none⟩) 0 0) from fun g h1 h2 => by
    have a1 : w1.heap.size = g := by simpa [Value.ownBlock] using h1
    have a2 : w1.heap.size + 1 = g := by simpa [Value.ownBlock] using h2
    omega)
  have B2 := Lib.hid (show Below w.heap.size w ((w1.alloc (.cells #[] 9)).alloc (.cells #[] 9)) from Below.alloc (Below.alloc BW.out (by omega) _) (by simp; omega) _)
  have c20 := cell_alloc_keep (.cells #[] 9) (cell_alloc_keep (.cells #[] 9) x0)
  have c21 := cell_alloc_keep (.cells #[] 9) (cell_alloc_keep (.cells #[] 9) x1)
  have c22 := cell_alloc_keep (.cells #[] 9) (cell_alloc_keep (.cells #[] 9) x2)
  have c23 := cell_alloc_keep (.cells #[] 9) (cell_alloc_keep (.cells #[] 9) x3)
  have c24 := cell_alloc_keep (.cells #[] 9) (cell_alloc_keep (.cells #[] 9) x4)
  go_wp2_with fail
  obtain ⟨w2, hw2⟩ : ∃ W, W = (w1.alloc (.cells #[] 9)).alloc (.cells #[] 9) := ⟨_, rfl⟩
  have z2 : w.heap.size + 1 ≤ w2.heap.size := by rw [hw2]; simp; omega
  rw [← hw2] at OA OB B2 c20 c21 c22 c23 c24 ⊢
  clear hw2 x0 x1 x2 x3 x4 BW
  obtain ⟨g0, hg0⟩ : ∃ g, g = w1.heap.size := ⟨_, rfl⟩
  rw [← hg0] at OA OB AP ⊢
  clear hg0 z1
  go_loopw [4, 19] (fun so si wr => ∃ (k : Nat) (u9 : Value), u9 = so ∧ k ≤ d.ns.length ∧ si = .int .i64 k ∧ Hid (wr.ownsRow (w.heap.size + 1) 9 1 u9 k (((d.ns.map nodeT).take k).map Value.string)) ∧ Hid (wr.ownsRow (w.heap.size + 1) 9 1 (.slice (some ⟨g0 + 1, 0, none⟩) 0 0) 0 []) ∧ Hid (Apart u9 (.slice (some ⟨g0 + 1, 0, none⟩) 0 0)) ∧ Hid (Below w.heap.size w wr) ∧ w.heap.size + 1 ≤ wr.heap.size ∧ wr.cell? ⟨w.heap.size, 0, none⟩ = some (.int .i64 (n : Int)) ∧ wr.cell? ⟨w.heap.size, 1, none⟩ = some (.slice A d.ns.length c) ∧ wr.cell? ⟨w.heap.size, 2, none⟩ = some (.slice A1 d.ws.length c1) ∧ wr.cell? ⟨w.heap.size, 3, none⟩ = some (.int .i64 (u : Int)) ∧ wr.cell? ⟨w.heap.size, 4, none⟩ = some (.int .i64 r)) (fun _ si _ => d.ns.length - (intOf si).toNat)
  case atStart => exact ⟨0, _, rfl, Nat.zero_le _, rfl, OA, OB, AP, B2, z2, c20, c21, c22, c23, c24⟩
  case round =>
    clear OA OB AP B2 z2 c20 c21 c22 c23 c24
    obtain ⟨k, u9, rfl, hk, rfl, hO, hQ, hAP, hB, hsz, x0, x1, x2, x3, x4⟩ := hrel
    obtain ⟨aU, cU, rfl⟩ : ∃ a c, u9 = .slice a k c := own_fm hO.out
    by_cases hlt : k < d.ns.length
    · have i1 : (k : Int) < (d.ns.length : Int) := by omega
      obtain ⟨b, off, rfl, hb, q0, q1⟩ := HN.out k hlt
      replace q0 := (hB.out.cell hb).trans q0
      replace q1 := (hB.out.cell hb).trans q1
      have hok := good_nk HG.out hlt
      have HL4 := take_str (ts := d.ns.map nodeT) (k := k) (by rw [List.length_map]; exact hlt) (getD_node hlt).symm
      obtain ⟨x, hx⟩ : ∃ x, x = d.ns.getD k ⟨0, 0⟩ := ⟨_, rfl⟩
      rw [← hx] at q0 q1 hok HL4
      clear hx
      obtain ⟨q, hq⟩ : ∃ n : Nat, x.b = (n : Int) := ⟨x.b.toNat, by unfold okN at hok; omega⟩
      have hq9 : q < 100 := by unfold okN at hok; omega
      have hnz := num_size hq9
      have g2' : ¬ 9223372036854775807 < 1 + (numB q).size := by omega
      have hka : x.a = 0 ∨ x.a = 1 ∨ x.a = 2 ∨ x.a = 3 := by unfold okN at hok; omega
      clear hok
      have hk40 : k < 40 := by omega
      rcases hka with ka | ka | ka | ka
      · have HN9 := Lib.hid (show nodeT x = ⟨#[45]⟩ from by rw [node_0 ka])
        rw [HN9.out] at HL4
        rw [ka] at q0
        rw [hq] at q1
        clear ka HN9 hq
        have s0 : (wr.alloc (.cells #[.int .i64 0, .int .i64 (q : Int)] 36)).cell? ⟨w.heap.size, 0, none⟩ = some (.int .i64 (n : Int)) := cell_alloc_keep _ x0
        have s1 : (wr.alloc (.cells #[.int .i64 0, .int .i64 (q : Int)] 36)).cell? ⟨w.heap.size, 1, none⟩ = some (.slice (some ⟨b, off, none⟩) d.ns.length c) := cell_alloc_keep _ x1
        have s2 : (wr.alloc (.cells #[.int .i64 0, .int .i64 (q : Int)] 36)).cell? ⟨w.heap.size, 2, none⟩ = some (.slice A1 d.ws.length c1) := cell_alloc_keep _ x2
        have s3 : (wr.alloc (.cells #[.int .i64 0, .int .i64 (q : Int)] 36)).cell? ⟨w.heap.size, 3, none⟩ = some (.int .i64 (u : Int)) := cell_alloc_keep _ x3
        have s4 : (wr.alloc (.cells #[.int .i64 0, .int .i64 (q : Int)] 36)).cell? ⟨w.heap.size, 4, none⟩ = some (.int .i64 r) := cell_alloc_keep _ x4
        have ON := Lib.hid (World.ownsRow.alloc hO.out (.cells #[.int .i64 0, .int .i64 (q : Int)] 36))
        have OQ := Lib.hid (World.ownsRow.alloc hQ.out (.cells #[.int .i64 0, .int .i64 (q : Int)] 36))
        have BN := Lib.hid (show Below w.heap.size w (wr.alloc (.cells #[.int .i64 0, .int .i64 (q : Int)] 36)) from Below.alloc hB.out (by omega) _)
        have zN : w.heap.size + 1 ≤ (wr.alloc (.cells #[.int .i64 0, .int .i64 (q : Int)] 36)).heap.size := by simp; omega
        go_upto_region 10 with fail
        obtain ⟨wc, hW⟩ : ∃ W, W = (wr.alloc (.cells #[.int .i64 0, .int .i64 (q : Int)] 36)) := ⟨_, rfl⟩
        rw [← hW] at s0 s1 s2 s3 s4 ON OQ BN zN ⊢
        clear hW x0 x1 x2 x3 x4 hO hQ hB q0 q1 g2'
        obtain ⟨T, hT⟩ : ∃ T : ByteArray, T = ⟨#[45]⟩ := ⟨_, rfl⟩
        rw [← hT] at HL4 ⊢
        replace HL4 := Lib.hid HL4
        clear hT
        have OX := Lib.hid (World.ownsRow.alloc ON.out (.cells #[.string T] 9))
        have OY := Lib.hid (World.ownsRow.alloc OQ.out (.cells #[.string T] 9))
        have hbX := Lib.hid (Below.alloc BN.out (by omega) (.cells #[.string T] 9))
        have g1 : k + 1 ≤ maxLen := by unfold maxLen; omega
        have g2 : (k + 1) * 16 ≤ 140737488355328 := by omega
        have g3 : w.heap.size + 1 ≤ (wc.alloc (.cells #[.string T] 9)).heap.size := by simp; omega
        have g4 : (Value.string ⟨#[]⟩).cells.size = 1 := rfl
        have g5 := str_reads wc T
        have g6 := str_one T
        go_wp2_with (at_builtin; (refine wpList_append_any _ rfl (.tmp 35) (.tmp 37) 31 rfl (w.heap.size + 1) 9 i0 (.string ⟨#[]⟩) 1 16 Tryz.underlying31 hi hz0 hz1 hz2 g4 (by decide) (.slice aU k cU) k _ (by rfl) OX.out (wc.heap.size + 1) (some ⟨wc.heap.size, 0, none⟩) 1 1 [.string T] (by rfl) g5 g6 g1 g2 g3 ?_; intro v3 w4 hown3 hg3 hat3; have S4 := Lib.hid (show w4.ownsRow (w.heap.size + 1) 9 1 v3 (k + 1) (((d.ns.map nodeT).take (k + 1)).map Value.string) from (by rw [HL4.out]; exact hown3)); have B4 := Lib.hid (grown_below hbX.out OX.out hg3 (by omega) (by omega)); have z4 := hg3.size; (simp at z4); replace s0 := grown_zy OX.out hg3 (by omega) (cell_alloc_keep _ s0); replace s1 := grown_zy OX.out hg3 (by omega) (cell_alloc_keep _ s1); replace s2 := grown_zy OX.out hg3 (by omega) (cell_alloc_keep _ s2); replace s3 := grown_zy OX.out hg3 (by omega) (cell_alloc_keep _ s3); replace s4 := grown_zy OX.out hg3 (by omega) (cell_alloc_keep _ s4); have P4 := Lib.hid (own_other hg3 OY.out (fun g a b => hAP.out g b a)); have A4 := Lib.hid (apart_zy hAP.out (World.ownsRow.lt OY.out (g0 + 1) rfl).2 hat3); clear hown3 hg3 hat3))
        go_roundw
        case rel => exact ⟨k + 1, v3, rfl, by omega, by go_num, S4, P4, A4, B4, by omega, s0, s1, s2, s3, s4⟩
        case measure => simp [intOf]; omega
      · have HN9 := Lib.hid (show nodeT x = ⟨#[105]⟩ ++ numB q from by rw [node_t (by omega), hq, ka]; rfl)
        rw [HN9.out] at HL4
        rw [ka] at q0
        rw [hq] at q1
        clear ka HN9 hq
        have s0 : (wr.alloc (.cells #[.int .i64 1, .int .i64 (q : Int)] 36)).cell? ⟨w.heap.size, 0, none⟩ = some (.int .i64 (n : Int)) := cell_alloc_keep _ x0
        have s1 : (wr.alloc (.cells #[.int .i64 1, .int .i64 (q : Int)] 36)).cell? ⟨w.heap.size, 1, none⟩ = some (.slice (some ⟨b, off, none⟩) d.ns.length c) := cell_alloc_keep _ x1
        have s2 : (wr.alloc (.cells #[.int .i64 1, .int .i64 (q : Int)] 36)).cell? ⟨w.heap.size, 2, none⟩ = some (.slice A1 d.ws.length c1) := cell_alloc_keep _ x2
        have s3 : (wr.alloc (.cells #[.int .i64 1, .int .i64 (q : Int)] 36)).cell? ⟨w.heap.size, 3, none⟩ = some (.int .i64 (u : Int)) := cell_alloc_keep _ x3
        have s4 : (wr.alloc (.cells #[.int .i64 1, .int .i64 (q : Int)] 36)).cell? ⟨w.heap.size, 4, none⟩ = some (.int .i64 r) := cell_alloc_keep _ x4
        have ON := Lib.hid (World.ownsRow.alloc hO.out (.cells #[.int .i64 1, .int .i64 (q : Int)] 36))
        have OQ := Lib.hid (World.ownsRow.alloc hQ.out (.cells #[.int .i64 1, .int .i64 (q : Int)] 36))
        have BN := Lib.hid (show Below w.heap.size w (wr.alloc (.cells #[.int .i64 1, .int .i64 (q : Int)] 36)) from Below.alloc hB.out (by omega) _)
        have zN : w.heap.size + 1 ≤ (wr.alloc (.cells #[.int .i64 1, .int .i64 (q : Int)] 36)).heap.size := by simp; omega
        go_wp2_with fail
        refine (itoa_small q hq9 _).mono ?_; rintro e w9 ⟨rfl, hw9⟩
        subst hw9
        go_upto_region 10 with fail
        obtain ⟨wc, hW⟩ : ∃ W, W = (wr.alloc (.cells #[.int .i64 1, .int .i64 (q : Int)] 36)) := ⟨_, rfl⟩
        rw [← hW] at s0 s1 s2 s3 s4 ON OQ BN zN ⊢
        clear hW x0 x1 x2 x3 x4 hO hQ hB q0 q1 g2'
        obtain ⟨T, hT⟩ : ∃ T : ByteArray, T = ⟨#[105]⟩ ++ numB q := ⟨_, rfl⟩
        rw [← hT] at HL4 ⊢
        replace HL4 := Lib.hid HL4
        clear hT
        have OX := Lib.hid (World.ownsRow.alloc ON.out (.cells #[.string T] 9))
        have OY := Lib.hid (World.ownsRow.alloc OQ.out (.cells #[.string T] 9))
        have hbX := Lib.hid (Below.alloc BN.out (by omega) (.cells #[.string T] 9))
        have g1 : k + 1 ≤ maxLen := by unfold maxLen; omega
        have g2 : (k + 1) * 16 ≤ 140737488355328 := by omega
        have g3 : w.heap.size + 1 ≤ (wc.alloc (.cells #[.string T] 9)).heap.size := by simp; omega
        have g4 : (Value.string ⟨#[]⟩).cells.size = 1 := rfl
        have g5 := str_reads wc T
        have g6 := str_one T
        go_wp2_with (at_builtin; (refine wpList_append_any _ rfl (.tmp 35) (.tmp 37) 31 rfl (w.heap.size + 1) 9 i0 (.string ⟨#[]⟩) 1 16 Tryz.underlying31 hi hz0 hz1 hz2 g4 (by decide) (.slice aU k cU) k _ (by rfl) OX.out (wc.heap.size + 1) (some ⟨wc.heap.size, 0, none⟩) 1 1 [.string T] (by rfl) g5 g6 g1 g2 g3 ?_; intro v3 w4 hown3 hg3 hat3; have S4 := Lib.hid (show w4.ownsRow (w.heap.size + 1) 9 1 v3 (k + 1) (((d.ns.map nodeT).take (k + 1)).map Value.string) from (by rw [HL4.out]; exact hown3)); have B4 := Lib.hid (grown_below hbX.out OX.out hg3 (by omega) (by omega)); have z4 := hg3.size; (simp at z4); replace s0 := grown_zy OX.out hg3 (by omega) (cell_alloc_keep _ s0); replace s1 := grown_zy OX.out hg3 (by omega) (cell_alloc_keep _ s1); replace s2 := grown_zy OX.out hg3 (by omega) (cell_alloc_keep _ s2); replace s3 := grown_zy OX.out hg3 (by omega) (cell_alloc_keep _ s3); replace s4 := grown_zy OX.out hg3 (by omega) (cell_alloc_keep _ s4); have P4 := Lib.hid (own_other hg3 OY.out (fun g a b => hAP.out g b a)); have A4 := Lib.hid (apart_zy hAP.out (World.ownsRow.lt OY.out (g0 + 1) rfl).2 hat3); clear hown3 hg3 hat3))
        go_roundw
        case rel => exact ⟨k + 1, v3, rfl, by omega, by go_num, S4, P4, A4, B4, by omega, s0, s1, s2, s3, s4⟩
        case measure => simp [intOf]; omega
      · have HN9 := Lib.hid (show nodeT x = ⟨#[111]⟩ ++ numB q from by rw [node_t (by omega), hq, ka]; rfl)
        rw [HN9.out] at HL4
        rw [ka] at q0
        rw [hq] at q1
        clear ka HN9 hq
        have s0 : (wr.alloc (.cells #[.int .i64 2, .int .i64 (q : Int)] 36)).cell? ⟨w.heap.size, 0, none⟩ = some (.int .i64 (n : Int)) := cell_alloc_keep _ x0
        have s1 : (wr.alloc (.cells #[.int .i64 2, .int .i64 (q : Int)] 36)).cell? ⟨w.heap.size, 1, none⟩ = some (.slice (some ⟨b, off, none⟩) d.ns.length c) := cell_alloc_keep _ x1
        have s2 : (wr.alloc (.cells #[.int .i64 2, .int .i64 (q : Int)] 36)).cell? ⟨w.heap.size, 2, none⟩ = some (.slice A1 d.ws.length c1) := cell_alloc_keep _ x2
        have s3 : (wr.alloc (.cells #[.int .i64 2, .int .i64 (q : Int)] 36)).cell? ⟨w.heap.size, 3, none⟩ = some (.int .i64 (u : Int)) := cell_alloc_keep _ x3
        have s4 : (wr.alloc (.cells #[.int .i64 2, .int .i64 (q : Int)] 36)).cell? ⟨w.heap.size, 4, none⟩ = some (.int .i64 r) := cell_alloc_keep _ x4
        have ON := Lib.hid (World.ownsRow.alloc hO.out (.cells #[.int .i64 2, .int .i64 (q : Int)] 36))
        have OQ := Lib.hid (World.ownsRow.alloc hQ.out (.cells #[.int .i64 2, .int .i64 (q : Int)] 36))
        have BN := Lib.hid (show Below w.heap.size w (wr.alloc (.cells #[.int .i64 2, .int .i64 (q : Int)] 36)) from Below.alloc hB.out (by omega) _)
        have zN : w.heap.size + 1 ≤ (wr.alloc (.cells #[.int .i64 2, .int .i64 (q : Int)] 36)).heap.size := by simp; omega
        go_wp2_with fail
        refine (itoa_small q hq9 _).mono ?_; rintro e w9 ⟨rfl, hw9⟩
        subst hw9
        go_upto_region 10 with fail
        obtain ⟨wc, hW⟩ : ∃ W, W = (wr.alloc (.cells #[.int .i64 2, .int .i64 (q : Int)] 36)) := ⟨_, rfl⟩
        rw [← hW] at s0 s1 s2 s3 s4 ON OQ BN zN ⊢
        clear hW x0 x1 x2 x3 x4 hO hQ hB q0 q1 g2'
        obtain ⟨T, hT⟩ : ∃ T : ByteArray, T = ⟨#[111]⟩ ++ numB q := ⟨_, rfl⟩
        rw [← hT] at HL4 ⊢
        replace HL4 := Lib.hid HL4
        clear hT
        have OX := Lib.hid (World.ownsRow.alloc ON.out (.cells #[.string T] 9))
        have OY := Lib.hid (World.ownsRow.alloc OQ.out (.cells #[.string T] 9))
        have hbX := Lib.hid (Below.alloc BN.out (by omega) (.cells #[.string T] 9))
        have g1 : k + 1 ≤ maxLen := by unfold maxLen; omega
        have g2 : (k + 1) * 16 ≤ 140737488355328 := by omega
        have g3 : w.heap.size + 1 ≤ (wc.alloc (.cells #[.string T] 9)).heap.size := by simp; omega
        have g4 : (Value.string ⟨#[]⟩).cells.size = 1 := rfl
        have g5 := str_reads wc T
        have g6 := str_one T
        go_wp2_with (at_builtin; (refine wpList_append_any _ rfl (.tmp 35) (.tmp 37) 31 rfl (w.heap.size + 1) 9 i0 (.string ⟨#[]⟩) 1 16 Tryz.underlying31 hi hz0 hz1 hz2 g4 (by decide) (.slice aU k cU) k _ (by rfl) OX.out (wc.heap.size + 1) (some ⟨wc.heap.size, 0, none⟩) 1 1 [.string T] (by rfl) g5 g6 g1 g2 g3 ?_; intro v3 w4 hown3 hg3 hat3; have S4 := Lib.hid (show w4.ownsRow (w.heap.size + 1) 9 1 v3 (k + 1) (((d.ns.map nodeT).take (k + 1)).map Value.string) from (by rw [HL4.out]; exact hown3)); have B4 := Lib.hid (grown_below hbX.out OX.out hg3 (by omega) (by omega)); have z4 := hg3.size; (simp at z4); replace s0 := grown_zy OX.out hg3 (by omega) (cell_alloc_keep _ s0); replace s1 := grown_zy OX.out hg3 (by omega) (cell_alloc_keep _ s1); replace s2 := grown_zy OX.out hg3 (by omega) (cell_alloc_keep _ s2); replace s3 := grown_zy OX.out hg3 (by omega) (cell_alloc_keep _ s3); replace s4 := grown_zy OX.out hg3 (by omega) (cell_alloc_keep _ s4); have P4 := Lib.hid (own_other hg3 OY.out (fun g a b => hAP.out g b a)); have A4 := Lib.hid (apart_zy hAP.out (World.ownsRow.lt OY.out (g0 + 1) rfl).2 hat3); clear hown3 hg3 hat3))
        go_roundw
        case rel => exact ⟨k + 1, v3, rfl, by omega, by go_num, S4, P4, A4, B4, by omega, s0, s1, s2, s3, s4⟩
        case measure => simp [intOf]; omega
      · have HN9 := Lib.hid (show nodeT x = ⟨#[122]⟩ ++ numB q from by rw [node_t (by omega), hq, ka]; rfl)
        rw [HN9.out] at HL4
        rw [ka] at q0
        rw [hq] at q1
        clear ka HN9 hq
        have s0 : (wr.alloc (.cells #[.int .i64 3, .int .i64 (q : Int)] 36)).cell? ⟨w.heap.size, 0, none⟩ = some (.int .i64 (n : Int)) := cell_alloc_keep _ x0
        have s1 : (wr.alloc (.cells #[.int .i64 3, .int .i64 (q : Int)] 36)).cell? ⟨w.heap.size, 1, none⟩ = some (.slice (some ⟨b, off, none⟩) d.ns.length c) := cell_alloc_keep _ x1
        have s2 : (wr.alloc (.cells #[.int .i64 3, .int .i64 (q : Int)] 36)).cell? ⟨w.heap.size, 2, none⟩ = some (.slice A1 d.ws.length c1) := cell_alloc_keep _ x2
        have s3 : (wr.alloc (.cells #[.int .i64 3, .int .i64 (q : Int)] 36)).cell? ⟨w.heap.size, 3, none⟩ = some (.int .i64 (u : Int)) := cell_alloc_keep _ x3
        have s4 : (wr.alloc (.cells #[.int .i64 3, .int .i64 (q : Int)] 36)).cell? ⟨w.heap.size, 4, none⟩ = some (.int .i64 r) := cell_alloc_keep _ x4
        have ON := Lib.hid (World.ownsRow.alloc hO.out (.cells #[.int .i64 3, .int .i64 (q : Int)] 36))
        have OQ := Lib.hid (World.ownsRow.alloc hQ.out (.cells #[.int .i64 3, .int .i64 (q : Int)] 36))
        have BN := Lib.hid (show Below w.heap.size w (wr.alloc (.cells #[.int .i64 3, .int .i64 (q : Int)] 36)) from Below.alloc hB.out (by omega) _)
        have zN : w.heap.size + 1 ≤ (wr.alloc (.cells #[.int .i64 3, .int .i64 (q : Int)] 36)).heap.size := by simp; omega
        go_wp2_with fail
        refine (itoa_small q hq9 _).mono ?_; rintro e w9 ⟨rfl, hw9⟩
        subst hw9
        go_upto_region 10 with fail
        obtain ⟨wc, hW⟩ : ∃ W, W = (wr.alloc (.cells #[.int .i64 3, .int .i64 (q : Int)] 36)) := ⟨_, rfl⟩
        rw [← hW] at s0 s1 s2 s3 s4 ON OQ BN zN ⊢
        clear hW x0 x1 x2 x3 x4 hO hQ hB q0 q1 g2'
        obtain ⟨T, hT⟩ : ∃ T : ByteArray, T = ⟨#[122]⟩ ++ numB q := ⟨_, rfl⟩
        rw [← hT] at HL4 ⊢
        replace HL4 := Lib.hid HL4
        clear hT
        have OX := Lib.hid (World.ownsRow.alloc ON.out (.cells #[.string T] 9))
        have OY := Lib.hid (World.ownsRow.alloc OQ.out (.cells #[.string T] 9))
        have hbX := Lib.hid (Below.alloc BN.out (by omega) (.cells #[.string T] 9))
        have g1 : k + 1 ≤ maxLen := by unfold maxLen; omega
        have g2 : (k + 1) * 16 ≤ 140737488355328 := by omega
        have g3 : w.heap.size + 1 ≤ (wc.alloc (.cells #[.string T] 9)).heap.size := by simp; omega
        have g4 : (Value.string ⟨#[]⟩).cells.size = 1 := rfl
        have g5 := str_reads wc T
        have g6 := str_one T
        go_wp2_with (at_builtin; (refine wpList_append_any _ rfl (.tmp 35) (.tmp 37) 31 rfl (w.heap.size + 1) 9 i0 (.string ⟨#[]⟩) 1 16 Tryz.underlying31 hi hz0 hz1 hz2 g4 (by decide) (.slice aU k cU) k _ (by rfl) OX.out (wc.heap.size + 1) (some ⟨wc.heap.size, 0, none⟩) 1 1 [.string T] (by rfl) g5 g6 g1 g2 g3 ?_; intro v3 w4 hown3 hg3 hat3; have S4 := Lib.hid (show w4.ownsRow (w.heap.size + 1) 9 1 v3 (k + 1) (((d.ns.map nodeT).take (k + 1)).map Value.string) from (by rw [HL4.out]; exact hown3)); have B4 := Lib.hid (grown_below hbX.out OX.out hg3 (by omega) (by omega)); have z4 := hg3.size; (simp at z4); replace s0 := grown_zy OX.out hg3 (by omega) (cell_alloc_keep _ s0); replace s1 := grown_zy OX.out hg3 (by omega) (cell_alloc_keep _ s1); replace s2 := grown_zy OX.out hg3 (by omega) (cell_alloc_keep _ s2); replace s3 := grown_zy OX.out hg3 (by omega) (cell_alloc_keep _ s3); replace s4 := grown_zy OX.out hg3 (by omega) (cell_alloc_keep _ s4); have P4 := Lib.hid (own_other hg3 OY.out (fun g a b => hAP.out g b a)); have A4 := Lib.hid (apart_zy hAP.out (World.ownsRow.lt OY.out (g0 + 1) rfl).2 hat3); clear hown3 hg3 hat3))
        go_roundw
        case rel => exact ⟨k + 1, v3, rfl, by omega, by go_num, S4, P4, A4, B4, by omega, s0, s1, s2, s3, s4⟩
        case measure => simp [intOf]; omega
    · have i1 : ¬ (k : Int) < (d.ns.length : Int) := by omega
      have ek : k = d.ns.length := by omega
      subst ek
      have OA := Lib.hid (show wr.ownsRow (w.heap.size + 1) 9 1 (.slice aU d.ns.length cU) d.ns.length ((d.ns.map nodeT).map Value.string) from by have := hO.out; rwa [List.take_of_length_le (by rw [List.length_map]; exact Nat.le_refl _)] at this)
      have AP := Lib.hid (show Apart (.slice (some ⟨g0 + 1, 0, none⟩) 0 0) (.slice aU d.ns.length cU) from fun g h1 h2 => hAP.out g h2 h1)
      have HB := Lib.hid hB.out
      have HQ := Lib.hid hQ.out
      have hbt0 : ∀ w : World, (Instr.index 65 (.agg #[.string ⟨#[45]⟩, .string ⟨#[61]⟩]) (.int .i64 0)).run Tryz.prog w = .ok (.string ⟨#[45]⟩) w := fun _ => (by kernel_rfl)
      have hbt1 : ∀ w : World, (Instr.index 65 (.agg #[.string ⟨#[45]⟩, .string ⟨#[61]⟩]) (.int .i64 1)).run Tryz.prog w = .ok (.string ⟨#[61]⟩) w := fun _ => (by kernel_rfl)
      clear hO hAP hB hQ hx0 hx1 hx2 hx3
      go_wp2_with fail
      go_loopw [5, 43] (fun so si wr => ∃ (k : Nat) (u9 : Value), u9 = so ∧ k ≤ d.ws.length ∧ si = .int .i64 k ∧ Hid (wr.ownsRow (w.heap.size + 1) 9 1 u9 k (((d.ws.map wireT).take k).map Value.string)) ∧ Hid (wr.ownsRow (w.heap.size + 1) 9 1 (.slice aU d.ns.length cU) d.ns.length ((d.ns.map nodeT).map Value.string)) ∧ Hid (Apart u9 (.slice aU d.ns.length cU)) ∧ Hid (Below w.heap.size w wr) ∧ w.heap.size + 1 ≤ wr.heap.size ∧ wr.cell? ⟨w.heap.size, 0, none⟩ = some (.int .i64 (n : Int)) ∧ wr.cell? ⟨w.heap.size, 1, none⟩ = some (.slice A d.ns.length c) ∧ wr.cell? ⟨w.heap.size, 2, none⟩ = some (.slice A1 d.ws.length c1) ∧ wr.cell? ⟨w.heap.size, 3, none⟩ = some (.int .i64 (u : Int)) ∧ wr.cell? ⟨w.heap.size, 4, none⟩ = some (.int .i64 r)) (fun _ si _ => d.ws.length - (intOf si).toNat)
      case atStart => exact ⟨0, _, rfl, Nat.zero_le _, rfl, HQ, OA, AP, HB, hsz, x0, x1, x2, x3, x4⟩
      case round =>
        clear OA AP HB HQ hsz x0 x1 x2 x3 x4 hk hlt i1
        obtain ⟨k, u9, rfl, hk, rfl, hO, hQ, hAP, hB, hsz, x0, x1, x2, x3, x4⟩ := hrel
        obtain ⟨aV, cV, rfl⟩ : ∃ a c, u9 = .slice a k c := own_fm hO.out
        by_cases hlt : k < d.ws.length
        · have i1 : (k : Int) < (d.ws.length : Int) := by omega
          obtain ⟨b, off, rfl, hb, q0, q1, q2⟩ := HW.out k hlt
          replace q0 := (hB.out.cell hb).trans q0
          replace q1 := (hB.out.cell hb).trans q1
          replace q2 := (hB.out.cell hb).trans q2
          have hok := good_wk HG.out hlt
          have HL4 := take_str (ts := d.ws.map wireT) (k := k) (by rw [List.length_map]; exact hlt) (getD_wire hlt).symm
          obtain ⟨x, hx⟩ : ∃ x, x = d.ws.getD k ⟨0, 0, false⟩ := ⟨_, rfl⟩
          rw [← hx] at q0 q1 q2 hok HL4
          clear hx
          obtain ⟨p, hp⟩ : ∃ n : Nat, x.a = (n : Int) := ⟨x.a.toNat, by unfold okW at hok; omega⟩
          obtain ⟨q, hq⟩ : ∃ n : Nat, x.b = (n : Int) := ⟨x.b.toNat, by unfold okW at hok; omega⟩
          have hp9 : p < 100 := by unfold okW at hok; omega
          have hq9 : q < 100 := by unfold okW at hok; omega
          have hn1 := num_size hp9
          have hn2 := num_size hq9
          have g1 : ¬ 9223372036854775807 < (numB p).size + 1 := by omega
          have g2 : ¬ 9223372036854775807 < (numB p).size + 1 + (numB q).size := by omega
          clear hok
          cases hh : x.h with
          | true =>
            have HW9 := Lib.hid (show wireT x = (numB p ++ ⟨#[61]⟩ ++ numB q) from by unfold wireT; rw [hp, hq, hh]; rfl)
            rw [HW9.out] at HL4
            replace HL4 := Lib.hid HL4
            rw [hp] at q0; rw [hq] at q1; rw [hh] at q2
            clear hh HW9 hp hq
            go_upto_region 15 with fail
            have e0 : (wr.alloc (.cells #[.int .i64 (p : Int), .int .i64 (q : Int), .bool true] 40)).cell? ⟨wr.heap.size, 0, none⟩ = some (.int .i64 (p : Int)) := (by repeat (first | (refine Eq.trans (World.cell?_alloc_at _ _ _ _ ?hh) ?_; (case hh => (simp; done)); rfl) | refine cell_alloc_keep _ ?_))
            have e1 : (wr.alloc (.cells #[.int .i64 (p : Int), .int .i64 (q : Int), .bool true] 40)).cell? ⟨wr.heap.size, 1, none⟩ = some (.int .i64 (q : Int)) := (by repeat (first | (refine Eq.trans (World.cell?_alloc_at _ _ _ _ ?hh) ?_; (case hh => (simp; done)); rfl) | refine cell_alloc_keep _ ?_))
            have e2 : (wr.alloc (.cells #[.int .i64 (p : Int), .int .i64 (q : Int), .bool true] 40)).cell? ⟨wr.heap.size, 2, none⟩ = some (.bool true) := (by repeat (first | (refine Eq.trans (World.cell?_alloc_at _ _ _ _ ?hh) ?_; (case hh => (simp; done)); rfl) | refine cell_alloc_keep _ ?_))
            have hBX := Lib.hid (show Below w.heap.size w (wr.alloc (.cells #[.int .i64 (p : Int), .int .i64 (q : Int), .bool true] 40)) from Below.alloc hB.out (by omega) _)
            have zN : w.heap.size + 1 ≤ (wr.alloc (.cells #[.int .i64 (p : Int), .int .i64 (q : Int), .bool true] 40)).heap.size := by simp; omega
            have OX := Lib.hid (World.ownsRow.alloc hO.out (.cells #[.int .i64 (p : Int), .int .i64 (q : Int), .bool true] 40))
            have QX := Lib.hid (World.ownsRow.alloc hQ.out (.cells #[.int .i64 (p : Int), .int .i64 (q : Int), .bool true] 40))
            replace x0 := cell_alloc_keep (.cells #[.int .i64 (p : Int), .int .i64 (q : Int), .bool true] 40) x0
            replace x1 := cell_alloc_keep (.cells #[.int .i64 (p : Int), .int .i64 (q : Int), .bool true] 40) x1
            replace x2 := cell_alloc_keep (.cells #[.int .i64 (p : Int), .int .i64 (q : Int), .bool true] 40) x2
            replace x3 := cell_alloc_keep (.cells #[.int .i64 (p : Int), .int .i64 (q : Int), .bool true] 40) x3
            replace x4 := cell_alloc_keep (.cells #[.int .i64 (p : Int), .int .i64 (q : Int), .bool true] 40) x4
            have HNB0 := Lib.hid (fun g hg => (World.ownsRow.lt hO.out g hg).2)
            clear hO hQ hB q0 q1 q2
            obtain ⟨W, hW⟩ : ∃ W, W = (wr.alloc (.cells #[.int .i64 (p : Int), .int .i64 (q : Int), .bool true] 40)) := ⟨_, rfl⟩
            rw [← hW] at e0 e1 e2 hBX zN OX QX x0 x1 x2 x3 x4 ⊢
            clear hW
            replace e0 : W.drew.cell? _ = _ := e0; replace e1 : W.drew.cell? _ = _ := e1; replace e2 : W.drew.cell? _ = _ := e2
            replace x0 : W.drew.cell? _ = _ := x0; replace x1 : W.drew.cell? _ = _ := x1; replace x2 : W.drew.cell? _ = _ := x2; replace x3 : W.drew.cell? _ = _ := x3; replace x4 : W.drew.cell? _ = _ := x4
            replace hBX := Lib.hid (show Below w.heap.size w W.drew from Below.drew hBX.out)
            have zW : w.heap.size + 1 ≤ W.heap.size := zN
            replace zN : w.heap.size + 1 ≤ W.drew.heap.size := zN
            have hO := Lib.hid (own_below OX.out (show Below W.heap.size W W.drew from (by repeat (first | exact Below.refl _ _ | assumption | refine Below.drew ?_ | refine below_drewN ?_ _ | refine Below.alloc ?_ (by first | omega | (simp <;> omega)) _ | refine Below.setCell ?_ (by first | omega | (simp <;> omega)) _ | refine Below.trans ?_ (Below.mono (by assumption) (by first | omega | (simp <;> omega)))))) rfl)
            have hQ := Lib.hid (own_below QX.out (show Below W.heap.size W W.drew from (by repeat (first | exact Below.refl _ _ | assumption | refine Below.drew ?_ | refine below_drewN ?_ _ | refine Below.alloc ?_ (by first | omega | (simp <;> omega)) _ | refine Below.setCell ?_ (by first | omega | (simp <;> omega)) _ | refine Below.trans ?_ (Below.mono (by assumption) (by first | omega | (simp <;> omega)))))) rfl)
            clear OX QX
            obtain ⟨N, hN⟩ : ∃ N, N = wr.heap.size := ⟨_, rfl⟩
            have HNB := Lib.hid (show ∀ g, (Value.slice aV k cV).ownBlock = some g → g < N from by rw [hN]; exact HNB0.out)
            rw [← hN] at e0 e1 e2 hsz ⊢
            clear hN
            refine AnyB.begin (S := (fun w' => w'.cell? ⟨N, 0, none⟩ = some (.int .i64 (p : Int)) ∧ w'.cell? ⟨N, 1, none⟩ = some (.int .i64 (q : Int)) ∧ w'.cell? ⟨N, 2, none⟩ = some (.bool true))) [] (by kernel_rfl) ?_ (fun hHeld0 => ?_)
            · ((try dsimp only); (first | exact ⟨e0, e1, e2⟩ | exact ⟨cell_alloc_keep _ e0, cell_alloc_keep _ e1, cell_alloc_keep _ e2⟩))
            refine AnyB.takeQ (i := 0) (oi := _) (v := ?_) (by simp only [List.getElem?_toArray, List.getElem?_cons_zero, List.getElem?_cons_succ]; rfl) (by kernel_rfl) (by kernel_rfl) (by kernel_rfl) (by intro _ _ _ h; exact h) (Or.inl ⟨by rfl, ?_⟩) ?_
            rotate_left
            · (intro w hSw; (try dsimp only at hSw); go_simp; (try (with_reducible rfl)))
            try simp only [Act.put, List.setIfInBounds_toArray, List.set_cons_zero, List.set_cons_succ]
            refine AnyB.takeQ (i := 1) (oi := _) (v := ?_) (by simp only [List.getElem?_toArray, List.getElem?_cons_zero, List.getElem?_cons_succ]; rfl) (by kernel_rfl) (by kernel_rfl) (by kernel_rfl) (by intro _ _ _ h; exact h) (Or.inl ⟨by rfl, ?_⟩) ?_
            rotate_left
            · (intro w hSw; (try dsimp only at hSw); go_simp; (try (with_reducible rfl)))
            try simp only [Act.put, List.setIfInBounds_toArray, List.set_cons_zero, List.set_cons_succ]
            refine AnyB.take (i := 2) (oi := _) (v := ?_) (by simp only [List.getElem?_toArray, List.getElem?_cons_zero, List.getElem?_cons_succ]; rfl) (by kernel_rfl) (by kernel_rfl) (by kernel_rfl) (by kernel_rfl) (by kernel_rfl) (by intro _ _ _ h; exact h) (Or.inl ⟨by rfl, ?_⟩) (by assumption) ?_
            rotate_left
            · (intro w hSw; (try dsimp only at hSw); go_simp; (try (with_reducible rfl)))
            try simp only [Act.put, List.setIfInBounds_toArray, List.set_cons_zero, List.set_cons_succ]
            refine AnyB.takeQ (i := 4) (oi := _) (v := ?_) (by simp only [List.getElem?_toArray, List.getElem?_cons_zero, List.getElem?_cons_succ]; rfl) (by kernel_rfl) (by kernel_rfl) (by kernel_rfl) (by intro _ _ _ h; exact h) (Or.inl ⟨by rfl, ?_⟩) ?_
            rotate_left
            · (intro w hSw; (try dsimp only at hSw); go_simp; (try (with_reducible rfl)))
            try simp only [Act.put, List.setIfInBounds_toArray, List.set_cons_zero, List.set_cons_succ]
            refine AnyB.takeQ (i := 5) (oi := _) (v := ?_) (by simp only [List.getElem?_toArray, List.getElem?_cons_zero, List.getElem?_cons_succ]; rfl) (by kernel_rfl) (by kernel_rfl) (by kernel_rfl) (by intro _ _ _ h; exact h) (Or.inl ⟨by rfl, ?_⟩) ?_
            rotate_left
            · (intro w hSw; (try dsimp only at hSw); go_simp; (try (with_reducible rfl)))
            try simp only [Act.put, List.setIfInBounds_toArray, List.set_cons_zero, List.set_cons_succ]
            refine AnyB.take (i := 6) (oi := _) (v := ?_) (by simp only [List.getElem?_toArray, List.getElem?_cons_zero, List.getElem?_cons_succ]; rfl) (by kernel_rfl) (by kernel_rfl) (by kernel_rfl) (by kernel_rfl) (by kernel_rfl) (by intro _ _ _ h; exact h) (Or.inl ⟨by rfl, ?_⟩) (by assumption) ?_
            rotate_left
            · (intro w hSw; (try dsimp only at hSw); go_simp; (try (with_reducible rfl)))
            try simp only [Act.put, List.setIfInBounds_toArray, List.set_cons_zero, List.set_cons_succ]
            refine AnyB.takeQ (i := 10) (oi := _) (v := ?_) (by simp only [List.getElem?_toArray, List.getElem?_cons_zero, List.getElem?_cons_succ]; rfl) (by kernel_rfl) (by kernel_rfl) (by kernel_rfl) (by intro _ _ _ h; exact h) (Or.inl ⟨by rfl, ?_⟩) ?_
            rotate_left
            · (intro w hSw; (try dsimp only at hSw); go_simp; (try (with_reducible rfl)))
            try simp only [Act.put, List.setIfInBounds_toArray, List.set_cons_zero, List.set_cons_succ]
            refine AnyB.take (i := 11) (oi := _) (v := ?_) (by simp only [List.getElem?_toArray, List.getElem?_cons_zero, List.getElem?_cons_succ]; rfl) (by kernel_rfl) (by kernel_rfl) (by kernel_rfl) (by kernel_rfl) (by kernel_rfl) (by intro _ _ _ h; exact h) (Or.inl ⟨by rfl, ?_⟩) (by assumption) ?_
            rotate_left
            · (intro w hSw; (try dsimp only at hSw); go_simp; (try (with_reducible rfl)))
            try simp only [Act.put, List.setIfInBounds_toArray, List.set_cons_zero, List.set_cons_succ]
            refine AnyB.each (rs := [3]) (by kernel_rfl) (by simp) ?_
            refine EachB.cons rfl (fun K hK hB => ?_) ?_
            · skip
              (go_simp; go_at_call 30; refine (itoa_small p hp9 _).mono ?_; rintro e w3 ⟨rfl, rfl⟩; dsimp only)
              refine hK.out _ _ ?_ (fun hHeld1 => ?_)
              · ((try dsimp only); (first | exact ⟨e0, e1, e2⟩ | exact ⟨cell_alloc_keep _ e0, cell_alloc_keep _ e1, cell_alloc_keep _ e2⟩))
              clear hB hK K hHeld0
              refine AnyB.each (rs := [7]) (by kernel_rfl) (by simp) ?_
              refine EachB.cons rfl (fun K hK hB => ?_) ?_
              · skip
                (go_simp; go_at_call 34; refine (impl_small_any _ _).mono ?_; rintro e w3 ⟨rfl, rfl⟩; dsimp only)
                refine hK.out _ _ ?_ (fun hHeld2 => ?_)
                · ((try dsimp only); (first | exact ⟨e0, e1, e2⟩ | exact ⟨cell_alloc_keep _ e0, cell_alloc_keep _ e1, cell_alloc_keep _ e2⟩))
                clear hB hK K hHeld1
                refine AnyB.each (rs := [8, 12]) (by kernel_rfl) (by simp) ?_
                refine EachB.cons rfl (fun K hK hB => ?_) ?_
                · skip
                  go_simp
                  refine hK.out _ _ ?_ (fun hHeld3 => ?_)
                  · ((try dsimp only); (first | exact ⟨e0, e1, e2⟩ | exact ⟨cell_alloc_keep _ e0, cell_alloc_keep _ e1, cell_alloc_keep _ e2⟩))
                  clear hB hK K hHeld2
                  refine AnyB.takeQ (i := 9) (oi := _) (v := ?_) (by simp only [List.getElem?_toArray, List.getElem?_cons_zero, List.getElem?_cons_succ]; rfl) (by kernel_rfl) (by kernel_rfl) (by kernel_rfl) (by intro _ _ _ h; exact h) (Or.inl ⟨by rfl, ?_⟩) ?_
                  rotate_left
                  · (intro w hSw; (try dsimp only at hSw); go_simp; (try (with_reducible rfl)))
                  try simp only [Act.put, List.setIfInBounds_toArray, List.set_cons_zero, List.set_cons_succ]
                  refine AnyB.each (rs := [12]) (by kernel_rfl) (by simp) ?_
                  refine EachB.cons rfl (fun K hK hB => ?_) ?_
                  · skip
                    (go_simp; go_at_call 30; refine (itoa_small q hq9 _).mono ?_; rintro e w3 ⟨rfl, rfl⟩; dsimp only)
                    refine hK.out _ _ ?_ (fun hHeld4 => ?_)
                    · ((try dsimp only); (first | exact ⟨e0, e1, e2⟩ | exact ⟨cell_alloc_keep _ e0, cell_alloc_keep _ e1, cell_alloc_keep _ e2⟩))
                    clear hB hK K hHeld3
                    refine AnyB.takeQ (i := 13) (oi := _) (v := ?_) (by simp only [List.getElem?_toArray, List.getElem?_cons_zero, List.getElem?_cons_succ]; rfl) (by kernel_rfl) (by kernel_rfl) (by kernel_rfl) (by intro _ _ _ h; exact h) (Or.inl ⟨by rfl, ?_⟩) ?_
                    rotate_left
                    · (intro w hSw; (try dsimp only at hSw); go_simp; (try (with_reducible rfl)))
                    try simp only [Act.put, List.setIfInBounds_toArray, List.set_cons_zero, List.set_cons_succ]
                    refine AnyB.each (rs := [14]) (by kernel_rfl) (by simp) ?_
                    refine EachB.cons rfl (fun K hK hB => ?_) ?_
                    · skip
                      go_simp
                      refine hK.out _ _ ?_ (fun hHeld5 => ?_)
                      · ((try dsimp only); (first | exact ⟨e0, e1, e2⟩ | exact ⟨cell_alloc_keep _ e0, cell_alloc_keep _ e1, cell_alloc_keep _ e2⟩))
                      clear hB hK K hHeld4
                      refine AnyB.each (rs := [15]) (by kernel_rfl) (by simp) ?_
                      refine EachB.cons rfl (fun K hK hB => ?_) ?_
                      · skip
                        (refine step_append_lies _ (by rfl) (.tmp 47) (.tmp 61) 31 (by rfl) (w.heap.size + 1) 9 i0 (.string ⟨#[]⟩) 1 16 Tryz.underlying31 hi hz0 hz1 hz2 rfl (by omega) (.slice aV k cV) k _ (by rfl) (hO.out.alloc _) _ 1 1 [.string (numB p ++ ⟨#[61]⟩ ++ numB q)] (by rfl) (by rfl) (news_cells W.drew [.string (numB p ++ ⟨#[61]⟩ ++ numB q)] 9) (str_one (numB p ++ ⟨#[61]⟩ ++ numB q)) (by omega) (by unfold maxLen; omega) (by omega) (by simp; omega) _ rfl ?_; intro gg1 cp1 w4 hown1 hgr1 hat1 hlt1; replace x0 := grown_zy (hO.out.alloc _) hgr1 (by omega) (cell_alloc_keep _ x0); replace x1 := grown_zy (hO.out.alloc _) hgr1 (by omega) (cell_alloc_keep _ x1); replace x2 := grown_zy (hO.out.alloc _) hgr1 (by omega) (cell_alloc_keep _ x2); replace x3 := grown_zy (hO.out.alloc _) hgr1 (by omega) (cell_alloc_keep _ x3); replace x4 := grown_zy (hO.out.alloc _) hgr1 (by omega) (cell_alloc_keep _ x4); replace e0 := grown_ne hgr1 HNB.out (cell_alloc_keep _ e0); replace e1 := grown_ne hgr1 HNB.out (cell_alloc_keep _ e1); replace e2 := grown_ne hgr1 HNB.out (cell_alloc_keep _ e2); have P4 := Lib.hid (own_other hgr1 (hQ.out.alloc _) (fun g a b => hAP.out g b a)); have A4 := Lib.hid (apart_zz (n := k + 1) (c := cp1) hAP.out (fun g hg => (World.ownsRow.lt (hQ.out.alloc _) g hg).2) hat1); have B4 := Lib.hid (show Below w.heap.size w w4 from (hBX.out.alloc (by omega) _).grown hgr1 (by simp; omega) (fun b hb => by have := (World.ownsRow.lt hO.out b hb).1; omega)); have z4 := Nat.le_trans zN (Nat.le_trans (show W.drew.heap.size ≤ (W.drew.alloc (.cells #[.string (numB p ++ ⟨#[61]⟩ ++ numB q)] 9)).heap.size from by simp) hgr1.size); have S4 := Lib.hid (show w4.ownsRow (w.heap.size + 1) 9 1 (.slice (some ⟨gg1, 0, none⟩) (k + 1) cp1) (k + 1) (((d.ws.map wireT).take (k + 1)).map Value.string) from (by rw [HL4.out]; exact hown1)); clear hown1 hgr1 hat1)
                        refine hK.out _ _ ?_ (fun hHeld6 => ?_)
                        · ((try dsimp only); (first | exact ⟨e0, e1, e2⟩ | exact ⟨cell_alloc_keep _ e0, cell_alloc_keep _ e1, cell_alloc_keep _ e2⟩))
                        clear hB hK K hHeld5
                        refine AnyB.takeQ (i := 16) (oi := _) (v := ?_) (by simp only [List.getElem?_toArray, List.getElem?_cons_zero, List.getElem?_cons_succ]; rfl) (by kernel_rfl) (by kernel_rfl) (by kernel_rfl) (by intro _ _ _ h; exact h) (Or.inl ⟨by rfl, ?_⟩) ?_
                        rotate_left
                        · (intro w hSw; (try dsimp only at hSw); go_simp; (try (with_reducible rfl)))
                        try simp only [Act.put, List.setIfInBounds_toArray, List.set_cons_zero, List.set_cons_succ]
                        refine AnyB.none (by kernel_rfl) ?_ _
                        go_wp2_with fail
                        go_roundw
                        case rel => exact ⟨k + 1, _, rfl, by omega, by go_num, S4, P4, A4, B4, z4, x0, x1, x2, x3, x4⟩
                        case measure => simp [intOf]; omega
                      exact EachB.nil
                    exact EachB.nil
                  exact EachB.nil
                refine EachB.cons rfl (fun K hK hB => ?_) ?_
                · skip
                  (go_simp; go_at_call 30; refine (itoa_small q hq9 _).mono ?_; rintro e w3 ⟨rfl, rfl⟩; dsimp only)
                  refine hK.out _ _ ?_ (fun hHeld7 => ?_)
                  · ((try dsimp only); (first | exact ⟨e0, e1, e2⟩ | exact ⟨cell_alloc_keep _ e0, cell_alloc_keep _ e1, cell_alloc_keep _ e2⟩))
                  clear hB hK K hHeld2
                  refine AnyB.each (rs := [8]) (by kernel_rfl) (by simp) ?_
                  refine EachB.cons rfl (fun K hK hB => ?_) ?_
                  · skip
                    go_simp
                    refine hK.out _ _ ?_ (fun hHeld8 => ?_)
                    · ((try dsimp only); (first | exact ⟨e0, e1, e2⟩ | exact ⟨cell_alloc_keep _ e0, cell_alloc_keep _ e1, cell_alloc_keep _ e2⟩))
                    clear hB hK K hHeld7
                    refine AnyB.takeQ (i := 9) (oi := _) (v := ?_) (by simp only [List.getElem?_toArray, List.getElem?_cons_zero, List.getElem?_cons_succ]; rfl) (by kernel_rfl) (by kernel_rfl) (by kernel_rfl) (by intro _ _ _ h; exact h) (Or.inl ⟨by rfl, ?_⟩) ?_
                    rotate_left
                    · (intro w hSw; (try dsimp only at hSw); go_simp; (try (with_reducible rfl)))
                    try simp only [Act.put, List.setIfInBounds_toArray, List.set_cons_zero, List.set_cons_succ]
                    refine AnyB.takeQ (i := 13) (oi := _) (v := ?_) (by simp only [List.getElem?_toArray, List.getElem?_cons_zero, List.getElem?_cons_succ]; rfl) (by kernel_rfl) (by kernel_rfl) (by kernel_rfl) (by intro _ _ _ h; exact h) (Or.inl ⟨by rfl, ?_⟩) ?_
                    rotate_left
                    · (intro w hSw; (try dsimp only at hSw); go_simp; (try (with_reducible rfl)))
                    try simp only [Act.put, List.setIfInBounds_toArray, List.set_cons_zero, List.set_cons_succ]
                    refine AnyB.each (rs := [14]) (by kernel_rfl) (by simp) ?_
                    refine EachB.cons rfl (fun K hK hB => ?_) ?_
                    · skip
                      go_simp
                      refine hK.out _ _ ?_ (fun hHeld9 => ?_)
                      · ((try dsimp only); (first | exact ⟨e0, e1, e2⟩ | exact ⟨cell_alloc_keep _ e0, cell_alloc_keep _ e1, cell_alloc_keep _ e2⟩))
                      clear hB hK K hHeld8
                      refine AnyB.each (rs := [15]) (by kernel_rfl) (by simp) ?_
                      refine EachB.cons rfl (fun K hK hB => ?_) ?_
                      · skip
                        (refine step_append_lies _ (by rfl) (.tmp 47) (.tmp 61) 31 (by rfl) (w.heap.size + 1) 9 i0 (.string ⟨#[]⟩) 1 16 Tryz.underlying31 hi hz0 hz1 hz2 rfl (by omega) (.slice aV k cV) k _ (by rfl) (hO.out.alloc _) _ 1 1 [.string (numB p ++ ⟨#[61]⟩ ++ numB q)] (by rfl) (by rfl) (news_cells W.drew [.string (numB p ++ ⟨#[61]⟩ ++ numB q)] 9) (str_one (numB p ++ ⟨#[61]⟩ ++ numB q)) (by omega) (by unfold maxLen; omega) (by omega) (by simp; omega) _ rfl ?_; intro gg1 cp1 w4 hown1 hgr1 hat1 hlt1; replace x0 := grown_zy (hO.out.alloc _) hgr1 (by omega) (cell_alloc_keep _ x0); replace x1 := grown_zy (hO.out.alloc _) hgr1 (by omega) (cell_alloc_keep _ x1); replace x2 := grown_zy (hO.out.alloc _) hgr1 (by omega) (cell_alloc_keep _ x2); replace x3 := grown_zy (hO.out.alloc _) hgr1 (by omega) (cell_alloc_keep _ x3); replace x4 := grown_zy (hO.out.alloc _) hgr1 (by omega) (cell_alloc_keep _ x4); replace e0 := grown_ne hgr1 HNB.out (cell_alloc_keep _ e0); replace e1 := grown_ne hgr1 HNB.out (cell_alloc_keep _ e1); replace e2 := grown_ne hgr1 HNB.out (cell_alloc_keep _ e2); have P4 := Lib.hid (own_other hgr1 (hQ.out.alloc _) (fun g a b => hAP.out g b a)); have A4 := Lib.hid (apart_zz (n := k + 1) (c := cp1) hAP.out (fun g hg => (World.ownsRow.lt (hQ.out.alloc _) g hg).2) hat1); have B4 := Lib.hid (show Below w.heap.size w w4 from (hBX.out.alloc (by omega) _).grown hgr1 (by simp; omega) (fun b hb => by have := (World.ownsRow.lt hO.out b hb).1; omega)); have z4 := Nat.le_trans zN (Nat.le_trans (show W.drew.heap.size ≤ (W.drew.alloc (.cells #[.string (numB p ++ ⟨#[61]⟩ ++ numB q)] 9)).heap.size from by simp) hgr1.size); have S4 := Lib.hid (show w4.ownsRow (w.heap.size + 1) 9 1 (.slice (some ⟨gg1, 0, none⟩) (k + 1) cp1) (k + 1) (((d.ws.map wireT).take (k + 1)).map Value.string) from (by rw [HL4.out]; exact hown1)); clear hown1 hgr1 hat1)
                        refine hK.out _ _ ?_ (fun hHeld10 => ?_)
                        · ((try dsimp only); (first | exact ⟨e0, e1, e2⟩ | exact ⟨cell_alloc_keep _ e0, cell_alloc_keep _ e1, cell_alloc_keep _ e2⟩))
                        clear hB hK K hHeld9
                        refine AnyB.takeQ (i := 16) (oi := _) (v := ?_) (by simp only [List.getElem?_toArray, List.getElem?_cons_zero, List.getElem?_cons_succ]; rfl) (by kernel_rfl) (by kernel_rfl) (by kernel_rfl) (by intro _ _ _ h; exact h) (Or.inl ⟨by rfl, ?_⟩) ?_
                        rotate_left
                        · (intro w hSw; (try dsimp only at hSw); go_simp; (try (with_reducible rfl)))
                        try simp only [Act.put, List.setIfInBounds_toArray, List.set_cons_zero, List.set_cons_succ]
                        refine AnyB.none (by kernel_rfl) ?_ _
                        go_wp2_with fail
                        go_roundw
                        case rel => exact ⟨k + 1, _, rfl, by omega, by go_num, S4, P4, A4, B4, z4, x0, x1, x2, x3, x4⟩
                        case measure => simp [intOf]; omega
                      exact EachB.nil
                    exact EachB.nil
                  exact EachB.nil
                exact EachB.nil
              exact EachB.nil
            exact EachB.nil
          | false =>
            have HW9 := Lib.hid (show wireT x = (numB p ++ ⟨#[45]⟩ ++ numB q) from by unfold wireT; rw [hp, hq, hh]; rfl)
            rw [HW9.out] at HL4
            replace HL4 := Lib.hid HL4
            rw [hp] at q0; rw [hq] at q1; rw [hh] at q2
            clear hh HW9 hp hq
            go_upto_region 15 with fail
            have e0 : (wr.alloc (.cells #[.int .i64 (p : Int), .int .i64 (q : Int), .bool false] 40)).cell? ⟨wr.heap.size, 0, none⟩ = some (.int .i64 (p : Int)) := (by repeat (first | (refine Eq.trans (World.cell?_alloc_at _ _ _ _ ?hh) ?_; (case hh => (simp; done)); rfl) | refine cell_alloc_keep _ ?_))
            have e1 : (wr.alloc (.cells #[.int .i64 (p : Int), .int .i64 (q : Int), .bool false] 40)).cell? ⟨wr.heap.size, 1, none⟩ = some (.int .i64 (q : Int)) := (by repeat (first | (refine Eq.trans (World.cell?_alloc_at _ _ _ _ ?hh) ?_; (case hh => (simp; done)); rfl) | refine cell_alloc_keep _ ?_))
            have e2 : (wr.alloc (.cells #[.int .i64 (p : Int), .int .i64 (q : Int), .bool false] 40)).cell? ⟨wr.heap.size, 2, none⟩ = some (.bool false) := (by repeat (first | (refine Eq.trans (World.cell?_alloc_at _ _ _ _ ?hh) ?_; (case hh => (simp; done)); rfl) | refine cell_alloc_keep _ ?_))
            have hBX := Lib.hid (show Below w.heap.size w (wr.alloc (.cells #[.int .i64 (p : Int), .int .i64 (q : Int), .bool false] 40)) from Below.alloc hB.out (by omega) _)
            have zN : w.heap.size + 1 ≤ (wr.alloc (.cells #[.int .i64 (p : Int), .int .i64 (q : Int), .bool false] 40)).heap.size := by simp; omega
            have OX := Lib.hid (World.ownsRow.alloc hO.out (.cells #[.int .i64 (p : Int), .int .i64 (q : Int), .bool false] 40))
            have QX := Lib.hid (World.ownsRow.alloc hQ.out (.cells #[.int .i64 (p : Int), .int .i64 (q : Int), .bool false] 40))
            replace x0 := cell_alloc_keep (.cells #[.int .i64 (p : Int), .int .i64 (q : Int), .bool false] 40) x0
            replace x1 := cell_alloc_keep (.cells #[.int .i64 (p : Int), .int .i64 (q : Int), .bool false] 40) x1
            replace x2 := cell_alloc_keep (.cells #[.int .i64 (p : Int), .int .i64 (q : Int), .bool false] 40) x2
            replace x3 := cell_alloc_keep (.cells #[.int .i64 (p : Int), .int .i64 (q : Int), .bool false] 40) x3
            replace x4 := cell_alloc_keep (.cells #[.int .i64 (p : Int), .int .i64 (q : Int), .bool false] 40) x4
            have HNB0 := Lib.hid (fun g hg => (World.ownsRow.lt hO.out g hg).2)
            clear hO hQ hB q0 q1 q2
            obtain ⟨W, hW⟩ : ∃ W, W = (wr.alloc (.cells #[.int .i64 (p : Int), .int .i64 (q : Int), .bool false] 40)) := ⟨_, rfl⟩
            rw [← hW] at e0 e1 e2 hBX zN OX QX x0 x1 x2 x3 x4 ⊢
            clear hW
            replace e0 : W.drew.cell? _ = _ := e0; replace e1 : W.drew.cell? _ = _ := e1; replace e2 : W.drew.cell? _ = _ := e2
            replace x0 : W.drew.cell? _ = _ := x0; replace x1 : W.drew.cell? _ = _ := x1; replace x2 : W.drew.cell? _ = _ := x2; replace x3 : W.drew.cell? _ = _ := x3; replace x4 : W.drew.cell? _ = _ := x4
            replace hBX := Lib.hid (show Below w.heap.size w W.drew from Below.drew hBX.out)
            have zW : w.heap.size + 1 ≤ W.heap.size := zN
            replace zN : w.heap.size + 1 ≤ W.drew.heap.size := zN
            have hO := Lib.hid (own_below OX.out (show Below W.heap.size W W.drew from (by repeat (first | exact Below.refl _ _ | assumption | refine Below.drew ?_ | refine below_drewN ?_ _ | refine Below.alloc ?_ (by first | omega | (simp <;> omega)) _ | refine Below.setCell ?_ (by first | omega | (simp <;> omega)) _ | refine Below.trans ?_ (Below.mono (by assumption) (by first | omega | (simp <;> omega)))))) rfl)
            have hQ := Lib.hid (own_below QX.out (show Below W.heap.size W W.drew from (by repeat (first | exact Below.refl _ _ | assumption | refine Below.drew ?_ | refine below_drewN ?_ _ | refine Below.alloc ?_ (by first | omega | (simp <;> omega)) _ | refine Below.setCell ?_ (by first | omega | (simp <;> omega)) _ | refine Below.trans ?_ (Below.mono (by assumption) (by first | omega | (simp <;> omega)))))) rfl)
            clear OX QX
            obtain ⟨N, hN⟩ : ∃ N, N = wr.heap.size := ⟨_, rfl⟩
            have HNB := Lib.hid (show ∀ g, (Value.slice aV k cV).ownBlock = some g → g < N from by rw [hN]; exact HNB0.out)
            rw [← hN] at e0 e1 e2 hsz ⊢
            clear hN
            refine AnyB.begin (S := (fun w' => w'.cell? ⟨N, 0, none⟩ = some (.int .i64 (p : Int)) ∧ w'.cell? ⟨N, 1, none⟩ = some (.int .i64 (q : Int)) ∧ w'.cell? ⟨N, 2, none⟩ = some (.bool false))) [] (by kernel_rfl) ?_ (fun hHeld0 => ?_)
            · ((try dsimp only); (first | exact ⟨e0, e1, e2⟩ | exact ⟨cell_alloc_keep _ e0, cell_alloc_keep _ e1, cell_alloc_keep _ e2⟩))
            refine AnyB.takeQ (i := 0) (oi := _) (v := ?_) (by simp only [List.getElem?_toArray, List.getElem?_cons_zero, List.getElem?_cons_succ]; rfl) (by kernel_rfl) (by kernel_rfl) (by kernel_rfl) (by intro _ _ _ h; exact h) (Or.inl ⟨by rfl, ?_⟩) ?_
            rotate_left
            · (intro w hSw; (try dsimp only at hSw); go_simp; (try (with_reducible rfl)))
            try simp only [Act.put, List.setIfInBounds_toArray, List.set_cons_zero, List.set_cons_succ]
            refine AnyB.takeQ (i := 1) (oi := _) (v := ?_) (by simp only [List.getElem?_toArray, List.getElem?_cons_zero, List.getElem?_cons_succ]; rfl) (by kernel_rfl) (by kernel_rfl) (by kernel_rfl) (by intro _ _ _ h; exact h) (Or.inl ⟨by rfl, ?_⟩) ?_
            rotate_left
            · (intro w hSw; (try dsimp only at hSw); go_simp; (try (with_reducible rfl)))
            try simp only [Act.put, List.setIfInBounds_toArray, List.set_cons_zero, List.set_cons_succ]
            refine AnyB.take (i := 2) (oi := _) (v := ?_) (by simp only [List.getElem?_toArray, List.getElem?_cons_zero, List.getElem?_cons_succ]; rfl) (by kernel_rfl) (by kernel_rfl) (by kernel_rfl) (by kernel_rfl) (by kernel_rfl) (by intro _ _ _ h; exact h) (Or.inl ⟨by rfl, ?_⟩) (by assumption) ?_
            rotate_left
            · (intro w hSw; (try dsimp only at hSw); go_simp; (try (with_reducible rfl)))
            try simp only [Act.put, List.setIfInBounds_toArray, List.set_cons_zero, List.set_cons_succ]
            refine AnyB.takeQ (i := 4) (oi := _) (v := ?_) (by simp only [List.getElem?_toArray, List.getElem?_cons_zero, List.getElem?_cons_succ]; rfl) (by kernel_rfl) (by kernel_rfl) (by kernel_rfl) (by intro _ _ _ h; exact h) (Or.inl ⟨by rfl, ?_⟩) ?_
            rotate_left
            · (intro w hSw; (try dsimp only at hSw); go_simp; (try (with_reducible rfl)))
            try simp only [Act.put, List.setIfInBounds_toArray, List.set_cons_zero, List.set_cons_succ]
            refine AnyB.takeQ (i := 5) (oi := _) (v := ?_) (by simp only [List.getElem?_toArray, List.getElem?_cons_zero, List.getElem?_cons_succ]; rfl) (by kernel_rfl) (by kernel_rfl) (by kernel_rfl) (by intro _ _ _ h; exact h) (Or.inl ⟨by rfl, ?_⟩) ?_
            rotate_left
            · (intro w hSw; (try dsimp only at hSw); go_simp; (try (with_reducible rfl)))
            try simp only [Act.put, List.setIfInBounds_toArray, List.set_cons_zero, List.set_cons_succ]
            refine AnyB.take (i := 6) (oi := _) (v := ?_) (by simp only [List.getElem?_toArray, List.getElem?_cons_zero, List.getElem?_cons_succ]; rfl) (by kernel_rfl) (by kernel_rfl) (by kernel_rfl) (by kernel_rfl) (by kernel_rfl) (by intro _ _ _ h; exact h) (Or.inl ⟨by rfl, ?_⟩) (by assumption) ?_
            rotate_left
            · (intro w hSw; (try dsimp only at hSw); go_simp; (try (with_reducible rfl)))
            try simp only [Act.put, List.setIfInBounds_toArray, List.set_cons_zero, List.set_cons_succ]
            refine AnyB.takeQ (i := 10) (oi := _) (v := ?_) (by simp only [List.getElem?_toArray, List.getElem?_cons_zero, List.getElem?_cons_succ]; rfl) (by kernel_rfl) (by kernel_rfl) (by kernel_rfl) (by intro _ _ _ h; exact h) (Or.inl ⟨by rfl, ?_⟩) ?_
            rotate_left
            · (intro w hSw; (try dsimp only at hSw); go_simp; (try (with_reducible rfl)))
            try simp only [Act.put, List.setIfInBounds_toArray, List.set_cons_zero, List.set_cons_succ]
            refine AnyB.take (i := 11) (oi := _) (v := ?_) (by simp only [List.getElem?_toArray, List.getElem?_cons_zero, List.getElem?_cons_succ]; rfl) (by kernel_rfl) (by kernel_rfl) (by kernel_rfl) (by kernel_rfl) (by kernel_rfl) (by intro _ _ _ h; exact h) (Or.inl ⟨by rfl, ?_⟩) (by assumption) ?_
            rotate_left
            · (intro w hSw; (try dsimp only at hSw); go_simp; (try (with_reducible rfl)))
            try simp only [Act.put, List.setIfInBounds_toArray, List.set_cons_zero, List.set_cons_succ]
            refine AnyB.each (rs := [3]) (by kernel_rfl) (by simp) ?_
            refine EachB.cons rfl (fun K hK hB => ?_) ?_
            · skip
              (go_simp; go_at_call 30; refine (itoa_small p hp9 _).mono ?_; rintro e w3 ⟨rfl, rfl⟩; dsimp only)
              refine hK.out _ _ ?_ (fun hHeld1 => ?_)
              · ((try dsimp only); (first | exact ⟨e0, e1, e2⟩ | exact ⟨cell_alloc_keep _ e0, cell_alloc_keep _ e1, cell_alloc_keep _ e2⟩))
              clear hB hK K hHeld0
              refine AnyB.each (rs := [7]) (by kernel_rfl) (by simp) ?_
              refine EachB.cons rfl (fun K hK hB => ?_) ?_
              · skip
                (go_simp; go_at_call 34; refine (impl_small_any _ _).mono ?_; rintro e w3 ⟨rfl, rfl⟩; dsimp only)
                refine hK.out _ _ ?_ (fun hHeld2 => ?_)
                · ((try dsimp only); (first | exact ⟨e0, e1, e2⟩ | exact ⟨cell_alloc_keep _ e0, cell_alloc_keep _ e1, cell_alloc_keep _ e2⟩))
                clear hB hK K hHeld1
                refine AnyB.each (rs := [8, 12]) (by kernel_rfl) (by simp) ?_
                refine EachB.cons rfl (fun K hK hB => ?_) ?_
                · skip
                  go_simp
                  refine hK.out _ _ ?_ (fun hHeld3 => ?_)
                  · ((try dsimp only); (first | exact ⟨e0, e1, e2⟩ | exact ⟨cell_alloc_keep _ e0, cell_alloc_keep _ e1, cell_alloc_keep _ e2⟩))
                  clear hB hK K hHeld2
                  refine AnyB.takeQ (i := 9) (oi := _) (v := ?_) (by simp only [List.getElem?_toArray, List.getElem?_cons_zero, List.getElem?_cons_succ]; rfl) (by kernel_rfl) (by kernel_rfl) (by kernel_rfl) (by intro _ _ _ h; exact h) (Or.inl ⟨by rfl, ?_⟩) ?_
                  rotate_left
                  · (intro w hSw; (try dsimp only at hSw); go_simp; (try (with_reducible rfl)))
                  try simp only [Act.put, List.setIfInBounds_toArray, List.set_cons_zero, List.set_cons_succ]
                  refine AnyB.each (rs := [12]) (by kernel_rfl) (by simp) ?_
                  refine EachB.cons rfl (fun K hK hB => ?_) ?_
                  · skip
                    (go_simp; go_at_call 30; refine (itoa_small q hq9 _).mono ?_; rintro e w3 ⟨rfl, rfl⟩; dsimp only)
                    refine hK.out _ _ ?_ (fun hHeld4 => ?_)
                    · ((try dsimp only); (first | exact ⟨e0, e1, e2⟩ | exact ⟨cell_alloc_keep _ e0, cell_alloc_keep _ e1, cell_alloc_keep _ e2⟩))
                    clear hB hK K hHeld3
                    refine AnyB.takeQ (i := 13) (oi := _) (v := ?_) (by simp only [List.getElem?_toArray, List.getElem?_cons_zero, List.getElem?_cons_succ]; rfl) (by kernel_rfl) (by kernel_rfl) (by kernel_rfl) (by intro _ _ _ h; exact h) (Or.inl ⟨by rfl, ?_⟩) ?_
                    rotate_left
                    · (intro w hSw; (try dsimp only at hSw); go_simp; (try (with_reducible rfl)))
                    try simp only [Act.put, List.setIfInBounds_toArray, List.set_cons_zero, List.set_cons_succ]
                    refine AnyB.each (rs := [14]) (by kernel_rfl) (by simp) ?_
                    refine EachB.cons rfl (fun K hK hB => ?_) ?_
                    · skip
                      go_simp
                      refine hK.out _ _ ?_ (fun hHeld5 => ?_)
                      · ((try dsimp only); (first | exact ⟨e0, e1, e2⟩ | exact ⟨cell_alloc_keep _ e0, cell_alloc_keep _ e1, cell_alloc_keep _ e2⟩))
                      clear hB hK K hHeld4
                      refine AnyB.each (rs := [15]) (by kernel_rfl) (by simp) ?_
                      refine EachB.cons rfl (fun K hK hB => ?_) ?_
                      · skip
                        (refine step_append_lies _ (by rfl) (.tmp 47) (.tmp 61) 31 (by rfl) (w.heap.size + 1) 9 i0 (.string ⟨#[]⟩) 1 16 Tryz.underlying31 hi hz0 hz1 hz2 rfl (by omega) (.slice aV k cV) k _ (by rfl) (hO.out.alloc _) _ 1 1 [.string (numB p ++ ⟨#[45]⟩ ++ numB q)] (by rfl) (by rfl) (news_cells W.drew [.string (numB p ++ ⟨#[45]⟩ ++ numB q)] 9) (str_one (numB p ++ ⟨#[45]⟩ ++ numB q)) (by omega) (by unfold maxLen; omega) (by omega) (by simp; omega) _ rfl ?_; intro gg1 cp1 w4 hown1 hgr1 hat1 hlt1; replace x0 := grown_zy (hO.out.alloc _) hgr1 (by omega) (cell_alloc_keep _ x0); replace x1 := grown_zy (hO.out.alloc _) hgr1 (by omega) (cell_alloc_keep _ x1); replace x2 := grown_zy (hO.out.alloc _) hgr1 (by omega) (cell_alloc_keep _ x2); replace x3 := grown_zy (hO.out.alloc _) hgr1 (by omega) (cell_alloc_keep _ x3); replace x4 := grown_zy (hO.out.alloc _) hgr1 (by omega) (cell_alloc_keep _ x4); replace e0 := grown_ne hgr1 HNB.out (cell_alloc_keep _ e0); replace e1 := grown_ne hgr1 HNB.out (cell_alloc_keep _ e1); replace e2 := grown_ne hgr1 HNB.out (cell_alloc_keep _ e2); have P4 := Lib.hid (own_other hgr1 (hQ.out.alloc _) (fun g a b => hAP.out g b a)); have A4 := Lib.hid (apart_zz (n := k + 1) (c := cp1) hAP.out (fun g hg => (World.ownsRow.lt (hQ.out.alloc _) g hg).2) hat1); have B4 := Lib.hid (show Below w.heap.size w w4 from (hBX.out.alloc (by omega) _).grown hgr1 (by simp; omega) (fun b hb => by have := (World.ownsRow.lt hO.out b hb).1; omega)); have z4 := Nat.le_trans zN (Nat.le_trans (show W.drew.heap.size ≤ (W.drew.alloc (.cells #[.string (numB p ++ ⟨#[45]⟩ ++ numB q)] 9)).heap.size from by simp) hgr1.size); have S4 := Lib.hid (show w4.ownsRow (w.heap.size + 1) 9 1 (.slice (some ⟨gg1, 0, none⟩) (k + 1) cp1) (k + 1) (((d.ws.map wireT).take (k + 1)).map Value.string) from (by rw [HL4.out]; exact hown1)); clear hown1 hgr1 hat1)
                        refine hK.out _ _ ?_ (fun hHeld6 => ?_)
                        · ((try dsimp only); (first | exact ⟨e0, e1, e2⟩ | exact ⟨cell_alloc_keep _ e0, cell_alloc_keep _ e1, cell_alloc_keep _ e2⟩))
                        clear hB hK K hHeld5
                        refine AnyB.takeQ (i := 16) (oi := _) (v := ?_) (by simp only [List.getElem?_toArray, List.getElem?_cons_zero, List.getElem?_cons_succ]; rfl) (by kernel_rfl) (by kernel_rfl) (by kernel_rfl) (by intro _ _ _ h; exact h) (Or.inl ⟨by rfl, ?_⟩) ?_
                        rotate_left
                        · (intro w hSw; (try dsimp only at hSw); go_simp; (try (with_reducible rfl)))
                        try simp only [Act.put, List.setIfInBounds_toArray, List.set_cons_zero, List.set_cons_succ]
                        refine AnyB.none (by kernel_rfl) ?_ _
                        go_wp2_with fail
                        go_roundw
                        case rel => exact ⟨k + 1, _, rfl, by omega, by go_num, S4, P4, A4, B4, z4, x0, x1, x2, x3, x4⟩
                        case measure => simp [intOf]; omega
                      exact EachB.nil
                    exact EachB.nil
                  exact EachB.nil
                refine EachB.cons rfl (fun K hK hB => ?_) ?_
                · skip
                  (go_simp; go_at_call 30; refine (itoa_small q hq9 _).mono ?_; rintro e w3 ⟨rfl, rfl⟩; dsimp only)
                  refine hK.out _ _ ?_ (fun hHeld7 => ?_)
                  · ((try dsimp only); (first | exact ⟨e0, e1, e2⟩ | exact ⟨cell_alloc_keep _ e0, cell_alloc_keep _ e1, cell_alloc_keep _ e2⟩))
                  clear hB hK K hHeld2
                  refine AnyB.each (rs := [8]) (by kernel_rfl) (by simp) ?_
                  refine EachB.cons rfl (fun K hK hB => ?_) ?_
                  · skip
                    go_simp
                    refine hK.out _ _ ?_ (fun hHeld8 => ?_)
                    · ((try dsimp only); (first | exact ⟨e0, e1, e2⟩ | exact ⟨cell_alloc_keep _ e0, cell_alloc_keep _ e1, cell_alloc_keep _ e2⟩))
                    clear hB hK K hHeld7
                    refine AnyB.takeQ (i := 9) (oi := _) (v := ?_) (by simp only [List.getElem?_toArray, List.getElem?_cons_zero, List.getElem?_cons_succ]; rfl) (by kernel_rfl) (by kernel_rfl) (by kernel_rfl) (by intro _ _ _ h; exact h) (Or.inl ⟨by rfl, ?_⟩) ?_
                    rotate_left
                    · (intro w hSw; (try dsimp only at hSw); go_simp; (try (with_reducible rfl)))
                    try simp only [Act.put, List.setIfInBounds_toArray, List.set_cons_zero, List.set_cons_succ]
                    refine AnyB.takeQ (i := 13) (oi := _) (v := ?_) (by simp only [List.getElem?_toArray, List.getElem?_cons_zero, List.getElem?_cons_succ]; rfl) (by kernel_rfl) (by kernel_rfl) (by kernel_rfl) (by intro _ _ _ h; exact h) (Or.inl ⟨by rfl, ?_⟩) ?_
                    rotate_left
                    · (intro w hSw; (try dsimp only at hSw); go_simp; (try (with_reducible rfl)))
                    try simp only [Act.put, List.setIfInBounds_toArray, List.set_cons_zero, List.set_cons_succ]
                    refine AnyB.each (rs := [14]) (by kernel_rfl) (by simp) ?_
                    refine EachB.cons rfl (fun K hK hB => ?_) ?_
                    · skip
                      go_simp
                      refine hK.out _ _ ?_ (fun hHeld9 => ?_)
                      · ((try dsimp only); (first | exact ⟨e0, e1, e2⟩ | exact ⟨cell_alloc_keep _ e0, cell_alloc_keep _ e1, cell_alloc_keep _ e2⟩))
                      clear hB hK K hHeld8
                      refine AnyB.each (rs := [15]) (by kernel_rfl) (by simp) ?_
                      refine EachB.cons rfl (fun K hK hB => ?_) ?_
                      · skip
                        (refine step_append_lies _ (by rfl) (.tmp 47) (.tmp 61) 31 (by rfl) (w.heap.size + 1) 9 i0 (.string ⟨#[]⟩) 1 16 Tryz.underlying31 hi hz0 hz1 hz2 rfl (by omega) (.slice aV k cV) k _ (by rfl) (hO.out.alloc _) _ 1 1 [.string (numB p ++ ⟨#[45]⟩ ++ numB q)] (by rfl) (by rfl) (news_cells W.drew [.string (numB p ++ ⟨#[45]⟩ ++ numB q)] 9) (str_one (numB p ++ ⟨#[45]⟩ ++ numB q)) (by omega) (by unfold maxLen; omega) (by omega) (by simp; omega) _ rfl ?_; intro gg1 cp1 w4 hown1 hgr1 hat1 hlt1; replace x0 := grown_zy (hO.out.alloc _) hgr1 (by omega) (cell_alloc_keep _ x0); replace x1 := grown_zy (hO.out.alloc _) hgr1 (by omega) (cell_alloc_keep _ x1); replace x2 := grown_zy (hO.out.alloc _) hgr1 (by omega) (cell_alloc_keep _ x2); replace x3 := grown_zy (hO.out.alloc _) hgr1 (by omega) (cell_alloc_keep _ x3); replace x4 := grown_zy (hO.out.alloc _) hgr1 (by omega) (cell_alloc_keep _ x4); replace e0 := grown_ne hgr1 HNB.out (cell_alloc_keep _ e0); replace e1 := grown_ne hgr1 HNB.out (cell_alloc_keep _ e1); replace e2 := grown_ne hgr1 HNB.out (cell_alloc_keep _ e2); have P4 := Lib.hid (own_other hgr1 (hQ.out.alloc _) (fun g a b => hAP.out g b a)); have A4 := Lib.hid (apart_zz (n := k + 1) (c := cp1) hAP.out (fun g hg => (World.ownsRow.lt (hQ.out.alloc _) g hg).2) hat1); have B4 := Lib.hid (show Below w.heap.size w w4 from (hBX.out.alloc (by omega) _).grown hgr1 (by simp; omega) (fun b hb => by have := (World.ownsRow.lt hO.out b hb).1; omega)); have z4 := Nat.le_trans zN (Nat.le_trans (show W.drew.heap.size ≤ (W.drew.alloc (.cells #[.string (numB p ++ ⟨#[45]⟩ ++ numB q)] 9)).heap.size from by simp) hgr1.size); have S4 := Lib.hid (show w4.ownsRow (w.heap.size + 1) 9 1 (.slice (some ⟨gg1, 0, none⟩) (k + 1) cp1) (k + 1) (((d.ws.map wireT).take (k + 1)).map Value.string) from (by rw [HL4.out]; exact hown1)); clear hown1 hgr1 hat1)
                        refine hK.out _ _ ?_ (fun hHeld10 => ?_)
                        · ((try dsimp only); (first | exact ⟨e0, e1, e2⟩ | exact ⟨cell_alloc_keep _ e0, cell_alloc_keep _ e1, cell_alloc_keep _ e2⟩))
                        clear hB hK K hHeld9
                        refine AnyB.takeQ (i := 16) (oi := _) (v := ?_) (by simp only [List.getElem?_toArray, List.getElem?_cons_zero, List.getElem?_cons_succ]; rfl) (by kernel_rfl) (by kernel_rfl) (by kernel_rfl) (by intro _ _ _ h; exact h) (Or.inl ⟨by rfl, ?_⟩) ?_
                        rotate_left
                        · (intro w hSw; (try dsimp only at hSw); go_simp; (try (with_reducible rfl)))
                        try simp only [Act.put, List.setIfInBounds_toArray, List.set_cons_zero, List.set_cons_succ]
                        refine AnyB.none (by kernel_rfl) ?_ _
                        go_wp2_with fail
                        go_roundw
                        case rel => exact ⟨k + 1, _, rfl, by omega, by go_num, S4, P4, A4, B4, z4, x0, x1, x2, x3, x4⟩
                        case measure => simp [intOf]; omega
                      exact EachB.nil
                    exact EachB.nil
                  exact EachB.nil
                exact EachB.nil
              exact EachB.nil
            exact EachB.nil
        · have i1 : ¬ (k : Int) < (d.ws.length : Int) := by omega
          have ek : k = d.ws.length := by omega
          subst ek
          have OB := Lib.hid (show wr.ownsRow (w.heap.size + 1) 9 1 (.slice aV d.ws.length cV) d.ws.length ((d.ws.map wireT).map Value.string) from by have := hO.out; rwa [List.take_of_length_le (by rw [List.length_map]; exact Nat.le_refl _)] at this)
          have OA := hQ
          have hB9 := hB
          have l1 : d.ns.length ≠ 0 := fun e => good_ns HG.out (List.eq_nil_of_length_eq_zero e)
          have l2 : d.ws.length ≠ 0 := fun e => good_ws HG.out (List.eq_nil_of_length_eq_zero e)
          have z1 : (joinL (d.ns.map nodeT) 44).size ≤ 200 := by
            have := joinL_size (ws := d.ns.map nodeT) (m := 3) (fun t ht => by
              obtain ⟨x, hx, rfl⟩ := List.mem_map.1 ht
              exact node_size (good_n HG.out x hx))
            rw [List.length_map] at this; omega
          have z2 : (joinL (d.ws.map wireT) 44).size ≤ 12582912 := by
            have := joinL_size (ws := d.ws.map wireT) (m := 5) (fun t ht => by
              obtain ⟨x, hx, rfl⟩ := List.mem_map.1 ht
              exact wire_size (good_w HG.out x hx))
            rw [List.length_map] at this; omega
          obtain ⟨w9, hw9⟩ : ∃ k, k = w.heap.size := ⟨_, rfl⟩
          rw [← hw9] at OA OB
          clear hw9
          have J1 := Lib.hid (fun (w : World) h => join_own2 (w := w) (B := w9 + 1) (n := d.ns.length) (v := .slice aU d.ns.length cU) (ws := d.ns.map nodeT) (c := 44) h (by rw [List.length_map]) l1 (by omega) (by omega))
          have J2 := Lib.hid (fun (w : World) h => join_own2 (w := w) (B := w9 + 1) (n := d.ws.length) (v := .slice aV d.ws.length cV) (ws := d.ws.map wireT) (c := 44) h (by rw [List.length_map]) l2 (by omega) (by omega))
          have HD := Lib.hid (show numB n ++ ⟨#[59]⟩ ++ numB u ++ ⟨#[59]⟩ ++ intB r ++ ⟨#[59]⟩ ++ joinL (d.ns.map nodeT) 44 ++ ⟨#[59]⟩ ++ joinL (d.ws.map wireT) 44 = diaT d from by rw [← HHZ.out]; rfl)
          have e3 : joinL (([(n : Int), (u : Int), r]).map intB) 59 = numB n ++ ⟨#[59]⟩ ++ numB u ++ ⟨#[59]⟩ ++ intB r := by
            rw [List.map_cons, List.map_cons, List.map_cons, List.map_nil, joinL_three]
            rfl
          have y1 := num_size ln
          have y2 := num_size lu
          have y3 := int_size lr0 lr1
          have JJ := Lib.hid (fun (v : Value) (w : World) h hs => impl_joinInts_any 59 v [(n : Int), (u : Int), r] w h (fun k hk => by
            have hk : k < 3 := hk
            match k, hk with
            | 0, _ => exact ⟨by simp; omega, by simp; omega⟩
            | 1, _ => exact ⟨by simp; omega, by simp; omega⟩
            | 2, _ => exact ⟨by simpa using lr0, by simpa using lr1⟩) (by simp) (by simp) hs (by rw [e3, app_size, app_size, app_size, app_size, one_size]; omega))
          rw [e3] at JJ
          clear e3
          obtain ⟨G1, hG1⟩ : ∃ G, G = joinL (d.ns.map nodeT) 44 := ⟨_, rfl⟩
          obtain ⟨G2, hG2⟩ : ∃ G, G = joinL (d.ws.map wireT) 44 := ⟨_, rfl⟩
          obtain ⟨G0, hG0⟩ : ∃ G, G = numB n ++ ⟨#[59]⟩ ++ numB u ++ ⟨#[59]⟩ ++ intB r := ⟨_, rfl⟩
          have z0 : G0.size ≤ 10 := by rw [hG0, app_size, app_size, app_size, app_size, one_size]; omega
          rw [← hG1] at J1 z1 HD
          rw [← hG2] at J2 z2 HD
          rw [← hG0] at JJ HD
          have k1 : ¬ 9223372036854775807 < G0.size + 1 := by omega
          have k2 : ¬ 9223372036854775807 < G0.size + 1 + G1.size := by omega
          have k3 : ¬ 9223372036854775807 < G0.size + 1 + G1.size + 1 := by omega
          have k4 : ¬ 9223372036854775807 < G0.size + 1 + G1.size + 1 + G2.size := by omega
          clear hG0 hG1 hG2 hO hQ hAP hB
          have RL := Lib.hid (lit_three wr n u r wr.heap.size rfl)
          have B3 := Lib.hid (show Below w.heap.size w (wr.alloc (.cells #[.int .i64 (n : Int), .int .i64 (u : Int), .int .i64 r] 3)) from Below.alloc hB9.out (by omega) _)
          have OA3 := Lib.hid (World.ownsRow.alloc OA.out (.cells #[.int .i64 (n : Int), .int .i64 (u : Int), .int .i64 r] 3))
          have OB3 := Lib.hid (World.ownsRow.alloc OB.out (.cells #[.int .i64 (n : Int), .int .i64 (u : Int), .int .i64 r] 3))
          go_wp2_with fail
          refine (JJ.out _ _ RL.out (HST.out.call B3.out)).mono ?_; rintro e w5 ⟨rfl, hb5⟩
          have OA5 := Lib.hid (own_below OA3.out hb5 rfl)
          have OB5 := Lib.hid (own_below OB3.out hb5 rfl)
          have B5 := Lib.hid (below_step B3.out hb5)
          clear hb5
          go_wp2_with fail
          refine (J1.out _ OA5.out).mono ?_; rintro e w6 ⟨rfl, hb6⟩
          have OB6 := Lib.hid (own_below OB5.out hb6 rfl)
          have B6 := Lib.hid (below_step B5.out hb6)
          clear hb6
          go_wp2_with fail
          refine (J2.out _ OB6.out).mono ?_; rintro e w7 ⟨rfl, hb7⟩
          have B7 := Lib.hid (below_step B6.out hb7)
          clear hb7
          go_wp2_with fail
          go_ret2
          exact ⟨by (rw [← HD.out]; try rfl), B7.out⟩
end Go.Proofs.YtliophgfgmjhiaaGreatDoor
