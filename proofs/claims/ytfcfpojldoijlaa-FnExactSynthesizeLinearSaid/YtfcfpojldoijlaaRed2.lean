/- The elimination of a map's rows in the program: eliminated, with its closure. -/
import Derived.Test.YtfcfpojldoijlaaRed1
import Derived.BigRegion
namespace Go.Proofs.Ytfcfpojldoijlaa
set_option linter.unusedSimpArgs false
set_option linter.unusedVariables false
set_option linter.unnecessarySimpa false
set_option maxRecDepth 200000
open Go.ChangeShapes Go.WideShapes Go.ChangeAt Go.RowKit

/-- The program's state: the rows, changed in place, behind box b3; the gates behind box b4. -/
structure RIt (B b3 b4 n g cap : Nat) (W0 w : World) (vO : Value) (s : RS) : Prop where
  c3 : w.cell? ⟨b3, 0, none⟩ = some (.slice (some ⟨g, 0, none⟩) n cap)
  c4 : w.cell? ⟨b4, 0, none⟩ = some vO
  f4 : w.frozen? ⟨b4, 0, none⟩ = false
  rows : OwnN w B g n cap s.L
  out : w.ownsRow B 96 3 vO s.gs.length (s.gs.flatMap E3.cs)
  ap : ∀ g', vO.ownBlock = some g' → g' ≠ g ∧ g' ≠ b3 ∧ g' ≠ b4
  n3 : g ≠ b3
  n4 : g ≠ b4
  n34 : b3 ≠ b4
  B4 : B ≤ b4
  bel : Below B W0 w
theorem RIt.mid {B b3 b4 n g cap : Nat} {W0 w : World} {vO : Value} {s : RS} (h : RIt B b3 b4 n g cap W0 w vO s) (b x : Nat) :
    RIt B b3 b4 n g cap W0 ((w.setCell ⟨g, b, none⟩ (.int .i64 (x : Int))).drew) vO ⟨s.L.set b x, s.gs⟩ := by
  have hR := h.rows.lt
  refine ⟨cell_set_far (Ne.symm h.n3) h.c3, cell_set_far (Ne.symm h.n4) h.c4, by show (w.setCell _ _).frozen? _ = false; rw [World.frozen?_setCell]; exact h.f4, ?_, ?_, h.ap, h.n3, h.n4, h.n34, h.B4, Below.drew (Below.setCell h.bel hR.1 _)⟩
  · exact (h.rows.set b x).below (show Below (w.setCell ⟨g, b, none⟩ (.int .i64 (x : Int))).heap.size _ (w.setCell ⟨g, b, none⟩ (.int .i64 (x : Int))).drew from (by repeat (first | exact Below.refl _ _ | assumption | refine Below.drew ?_ | refine below_drewN ?_ _ | refine Below.alloc ?_ (by first | omega | (simp <;> omega)) _ | refine Below.setCell ?_ (by first | omega | (simp <;> omega)) _ | refine Below.trans ?_ (Below.mono (by assumption) (by first | omega | (simp <;> omega)))))) rfl
  · exact own_below (own_set_ne (p := ⟨g, b, none⟩) h.out (fun g' hg' => (h.ap g' hg').1) _) (show Below (w.setCell ⟨g, b, none⟩ (.int .i64 (x : Int))).heap.size _ (w.setCell ⟨g, b, none⟩ (.int .i64 (x : Int))).drew from (by repeat (first | exact Below.refl _ _ | assumption | refine Below.drew ?_ | refine below_drewN ?_ _ | refine Below.alloc ?_ (by first | omega | (simp <;> omega)) _ | refine Below.setCell ?_ (by first | omega | (simp <;> omega)) _ | refine Below.trans ?_ (Below.mono (by assumption) (by first | omega | (simp <;> omega)))))) rfl
theorem RIt.app {B b3 b4 n g cap a b : Nat} {W0 w w4 : World} {vO v' : Value} {s : RS} (h : RIt B b3 b4 n g cap W0 w vO s)
    (hown : w4.ownsRow B 96 3 v' (s.gs.length + 1) (s.gs.flatMap E3.cs ++ E3.cs ⟨9, (a : Int), (b : Int)⟩))
    (hg : (w.alloc (.cells #[.int .i64 9, .int .i64 (a : Int), .int .i64 (b : Int)] 96)).grownBy w4 vO.ownBlock)
    (hat : v'.ownBlock = vO.ownBlock ∨ v'.ownBlock = some (w.alloc (.cells #[.int .i64 9, .int .i64 (a : Int), .int .i64 (b : Int)] 96)).heap.size) :
    w4.cell? ⟨b4, 0, none⟩ = some vO ∧ w4.frozen? ⟨b4, 0, none⟩ = false ∧ RIt B b3 b4 n g cap W0 (w4.setCell ⟨b4, 0, none⟩ v') v' ⟨s.L, s.gs ++ [⟨9, (a : Int), (b : Int)⟩]⟩ := by
  have hR := h.rows.lt
  have hO := h.out.lt
  have L3 : b3 < w.heap.size := World.block_lt_of_cell? _ _ h.c3
  have L4 : b4 < w.heap.size := World.block_lt_of_cell? _ _ h.c4
  have nb3 : vO.ownBlock ≠ some b3 := fun e => (h.ap _ e).2.1 rfl
  have nb4 : vO.ownBlock ≠ some b4 := fun e => (h.ap _ e).2.2 rfl
  have d4 := cell_grown hg (cell_alloc_keep _ h.c4) nb4
  have e4 := frz_grown hg (by simp; omega) (frozen_alloc_keep _ h.c4 h.f4) nb4
  have d3 := cell_grown hg (cell_alloc_keep _ h.c3) nb3
  have hv : ∀ g', v'.ownBlock = some g' → g' ≠ g ∧ g' ≠ b3 ∧ g' ≠ b4 := by
    intro g' hg'
    rcases hat with e | e
    · rw [e] at hg'; exact h.ap g' hg'
    · rw [e] at hg'; injection hg' with hg'; simp at hg'
      exact ⟨by omega, by omega, by omega⟩
  refine ⟨d4, e4, ?_, World.cell?_setCell_same _ _ _ d4, by rw [World.frozen?_setCell]; exact e4, ?_, ?_, hv, h.n3, h.n4, h.n34, h.B4, ?_⟩
  · exact cell_set_far h.n34 d3
  · exact own_set_ne (own_other hg (World.ownsRow.alloc h.rows _) (fun k h1 h2 => by injection h1 with h1; subst h1; exact (h.ap _ h2).1 rfl)) (fun k hk => by injection hk with hk; subst hk; exact h.n4) _
  · have e9 : (s.gs ++ [(⟨9, (a : Int), (b : Int)⟩ : E3)]).length = s.gs.length + 1 := by simp
    dsimp only
    rw [e9, List.flatMap_append]
    exact own_set_ne (by simpa using hown) (fun k hk => (hv k hk).2.2) _
  · have b3' := Below.alloc h.bel (by omega) (.cells #[.int .i64 9, .int .i64 (a : Int), .int .i64 (b : Int)] 96)
    exact Below.setCell (b3'.grown hg (by simp; omega) (fun k hk => (hO k hk).1)) h.B4 _
set_option maxHeartbeats 4000000 in
theorem eliminated1_any {B b3 b4 n g cap M : Nat} {W0 : World} {vO : Value} {s : RS} (a b : Nat) (w : World) (h : RIt B b3 b4 n g cap W0 w vO s) (hok : RSok n M s) (hM : M ≤ 1000) (h5 : n ≤ 5) (ha : a < n) (hb : b < n) :
    Calls Try.prog 150 #[.int .i64 (a : Int), .int .i64 (b : Int), .pointer (some ⟨b3, 0, none⟩), .pointer (some ⟨b4, 0, none⟩)] w fun e w' => e = .returned (.tuple #[]) ∧ ∃ vO', RIt B b3 b4 n g cap W0 w' vO' (s.add a b) := by
  obtain ⟨i0, hi, hz0, hz1, hz2⟩ := info_parts info_Gate
  have H := Lib.hid h
  obtain ⟨aO, cO, rfl⟩ := own_form h.out
  have c3 := h.c3
  have hlen := hok.len
  have hfew := hok.few
  obtain ⟨x, hx⟩ : ∃ x, x = s.L.getD a 0 := ⟨_, rfl⟩
  obtain ⟨y, hy⟩ : ∃ y, y = s.L.getD b 0 := ⟨_, rfl⟩
  have hxa := hok.small.get a
  have hxb := hok.small.get b
  have ca := own_int_cell h.rows a (by omega)
  have cb := own_int_cell h.rows b (by omega)
  have fb := h.rows.frz b
  rw [← hx] at ca hxa; rw [← hy] at cb hxb
  have hxo := bits_xor y x (by omega) (by omega)
  have hr : Hid (cxN s.L a b = s.L.set b (y ^^^ x)) := by show _ = _; rw [hx, hy]; rfl
  have j1 : (a : Int) < (n : Int) := by omega
  have j2 : (b : Int) < (n : Int) := by omega
  have j3 : (0 : Int) ≤ (a : Int) := by omega
  have j4 : (0 : Int) ≤ (b : Int) := by omega
  have HM := Lib.hid (h.mid b (y ^^^ x))
  clear hx hy h hok hlen
  go_enter Try.func150, Try.ntmps150
  go_wp2_with fail
  go_region
  clear c3 ca cb fb hxo
  generalize (w.setCell ⟨g, b, none⟩ (.int .i64 ((y ^^^ x : Nat) : Int))).drew = X at *
  have x4 := HM.out.c4
  have xf := HM.out.f4
  go_wp2_with (at_builtin; go_must (refine wpList_append_any _ rfl _ _ 40 rfl B 96 i0 (.agg #[.int .i64 0, .int .i64 0, .int .i64 0]) 3 24 Try.underlying40 hi hz0 hz1 hz2 rfl (by decide) _ s.gs.length _ rfl (HM.out.out.alloc _) (X.heap.size + 1) _ 1 1 (E3.cs ⟨9, (a : Int), (b : Int)⟩) rfl (by have := reads_news X (E3.cs ⟨9, (a : Int), (b : Int)⟩) 96 3 1 rfl; simpa [E3.cs] using this) (E3.one _) (by unfold maxLen; omega) (by omega) (by have h9 := HM.out.B4; have h8 : b4 < X.heap.size := World.block_lt_of_cell? _ _ x4; simp; omega) ?_; intro v3 w4 hown3 hg3 hat3; obtain ⟨a3, c3', rfl⟩ := own_form hown3; obtain ⟨d4, e4, hST⟩ := RIt.app HM.out hown3 hg3 hat3; have HST := Lib.hid hST; clear hST hown3 hg3 hat3 x4 xf))
  go_end0
  exact ⟨rfl, _, by have h9 := HST.out; unfold RS.add; rw [hr.out]; exact h9⟩
set_option maxHeartbeats 16000000 in
theorem impl_eliminated_any (v : Value) (L : List Nat) (n : Nat) (w : World) (h : RdI w v (ints L)) (hs : Small L) (hn : L.length = n) (h1 : 1 ≤ n) (h5 : n ≤ 5) :
    Calls Try.prog 118 #[.agg #[v]] w fun e w' => ∃ u, e = .returned u ∧ OwnE w' w.heap.size 96 u E3.cs 3 (redG L) ∧ Below w.heap.size w w' := by
  have H := Lib.hid h
  obtain ⟨A, c, rfl, _⟩ := h.form
  have HS := Lib.hid hs; have HN := Lib.hid hn
  clear h hs hn
  have hmf : ∀ (fn : Fn) (first cap : Array Value) (w : World), (Instr.makeFunc fn first cap).run Try.prog w = .ok (.func fn first cap) w := fun _ _ _ _ => rfl
  go_enter Try.func118, Try.ntmps118
  go_wp2_with fail
  refine (slices_Clone_any _ (ints L) _ (Rd.below H.out (show Below w.heap.size w _ from (by repeat (first | exact Below.refl _ _ | assumption | refine Below.drew ?_ | refine below_drewN ?_ _ | refine Below.alloc ?_ (by first | omega | (simp <;> omega)) _ | refine Below.setCell ?_ (by first | omega | (simp <;> omega)) _ | refine Below.trans ?_ (Below.mono (by assumption) (by first | omega | (simp <;> omega)))))) rfl) (by rw [ints_len, HN.out]; omega)).mono ?_; rintro e w1 ⟨v1, rfl, ho1, hb1⟩
  obtain ⟨g, cap, hv1, hg1a, hg1b⟩ := own_ints ho1 (by rw [HN.out]; omega)
  rw [HN.out] at hv1
  subst hv1
  have O1 := Lib.hid (OwnI.le ho1 (base' := w.heap.size) (by simp))
  have z1 := hb1.size; (simp at z1); (simp at hg1a)
  have bw1 := Lib.hid (show Below w.heap.size w w1 from (by repeat (first | exact Below.refl _ _ | assumption | refine Below.drew ?_ | refine below_drewN ?_ _ | refine Below.alloc ?_ (by first | omega | (simp <;> omega)) _ | refine Below.setCell ?_ (by first | omega | (simp <;> omega)) _ | refine Below.trans ?_ (Below.mono (by assumption) (by first | omega | (simp <;> omega))))))
  clear hb1 ho1
  go_wp2_with fail
  have S0 : Hid (RIt w.heap.size (w1.heap.size + 1) (w1.heap.size + 1 + 1) n g cap w (((w1.alloc (.cells #[] 96)).alloc (.cells #[.slice (some ⟨g, 0, none⟩) n cap] 50)).alloc (.cells #[.slice (some ⟨w1.heap.size, 0, none⟩) 0 0] 40)) (.slice (some ⟨w1.heap.size, 0, none⟩) 0 0) ⟨L, []⟩) := by
    have b1 : Below w1.heap.size w1 (((w1.alloc (.cells #[] 96)).alloc (.cells #[.slice (some ⟨g, 0, none⟩) n cap] 50)).alloc (.cells #[.slice (some ⟨w1.heap.size, 0, none⟩) 0 0] 40)) := (by repeat (first | exact Below.refl _ _ | assumption | refine Below.drew ?_ | refine below_drewN ?_ _ | refine Below.alloc ?_ (by first | omega | (simp <;> omega)) _ | refine Below.setCell ?_ (by first | omega | (simp <;> omega)) _ | refine Below.trans ?_ (Below.mono (by assumption) (by first | omega | (simp <;> omega)))))
    have o1 := own_lit0 (f := E3.cs) (sz := 3) w1 w.heap.size 96 w1.heap.size rfl (by omega)
    have b2 : Below (w1.alloc (.cells #[] 96)).heap.size (w1.alloc (.cells #[] 96)) (((w1.alloc (.cells #[] 96)).alloc (.cells #[.slice (some ⟨g, 0, none⟩) n cap] 50)).alloc (.cells #[.slice (some ⟨w1.heap.size, 0, none⟩) 0 0] 40)) := (by repeat (first | exact Below.refl _ _ | assumption | refine Below.drew ?_ | refine below_drewN ?_ _ | refine Below.alloc ?_ (by first | omega | (simp <;> omega)) _ | refine Below.setCell ?_ (by first | omega | (simp <;> omega)) _ | refine Below.trans ?_ (Below.mono (by assumption) (by first | omega | (simp <;> omega)))))
    have ap0 : ∀ g', (Value.slice (some ⟨w1.heap.size, 0, none⟩) 0 0).ownBlock = some g' → g' ≠ g ∧ g' ≠ w1.heap.size + 1 ∧ g' ≠ w1.heap.size + 1 + 1 := by
      intro g' hg'
      have h8 : w1.heap.size = g' := by simpa [Value.ownBlock] using hg'
      omega
    exact (show RIt _ _ _ _ _ _ _ _ _ _ from ⟨(by repeat (first | (refine Eq.trans (World.cell?_alloc_at _ _ _ _ ?hh) ?_; (case hh => (simp; done)); rfl) | refine cell_alloc_keep _ ?_)), (by repeat (first | (refine Eq.trans (World.cell?_alloc_at _ _ _ _ ?hh) ?_; (case hh => (simp; done)); rfl) | refine cell_alloc_keep _ ?_)), (by repeat (first | (refine World.frozen?_alloc_at _ _ _ _ ?hh; case hh => (simp; done)) | (refine frozen_alloc_lt _ ?hh ?_; case hh => first | omega | (simp <;> omega)))), (by have h9 := OwnN.of (M := L) (by rw [HN.out]; exact OwnI.below O1.out b1 rfl); rw [HN.out] at h9; exact h9), own_below (show (w1.alloc (.cells #[] 96)).ownsRow w.heap.size 96 3 (.slice (some ⟨w1.heap.size, 0, none⟩) 0 0) 0 [] from o1) b2 rfl, ap0, by omega, by omega, by omega, by omega, Below.trans bw1.out (b1.mono (by omega))⟩)
  have R0 : Hid (RSok n (10 * 0) ⟨L, []⟩) := (show RSok _ _ _ from ⟨HN.out, HS.out, by simp, by simp⟩)
  have F0 : Hid ((red0 n (n - 0) 0 ⟨L, []⟩).gs = redG L) := (show _ = _ from by unfold redG; rw [HN.out]; rfl)
  go_loopw [16] (fun i wr => ∃ (k : Nat) (s : RS) (vO : Value), k ≤ n ∧ i = .int .i64 k ∧ Hid (RIt w.heap.size (w1.heap.size + 1) (w1.heap.size + 1 + 1) n g cap w wr vO s) ∧ Hid (RSok n (10 * k) s) ∧ Hid ((red0 n (n - k) k s).gs = redG L)) (fun i _ => n - (intOf i).toNat)
  case atStart => exact ⟨0, ⟨L, []⟩, _, Nat.zero_le _, rfl, S0, R0, F0⟩
  case round =>
    obtain ⟨k, s, vO, hk, rfl, hS, hR, hF⟩ := hrel
    clear S0 R0 F0 O1
    obtain ⟨wo, rfl⟩ : ∃ wo : World, wo = wr := ⟨_, rfl⟩
    by_cases hlt : k < n
    · have i1 : (k : Int) < (n : Int) := by omega
      have i2 : (0 : Int) ≤ (k : Int) := by omega
      have F1 := Lib.hid (redF_1 hlt hF.out)
      clear hF
      go_wp2_with fail
      go_loopw [7] (fun i wr => ∃ (j : Nat) (s : RS) (vO : Value), k + 1 ≤ j ∧ j ≤ n ∧ i = .int .i64 j ∧ Hid (RIt w.heap.size (w1.heap.size + 1) (w1.heap.size + 1 + 1) n g cap w wr vO s) ∧ Hid (RSok n (10 * k + j) s) ∧ Hid ((red0 n (n - (k + 1)) (k + 1) (red2 k n 0 (red1 k (n - j) j s))).gs = redG L)) (fun i _ => n - (intOf i).toNat)
      case atStart => exact ⟨k + 1, s, vO, Nat.le_refl _, by omega, by go_num, hS.out, (show RSok _ _ _ from hR.out.mono (by omega)), F1.out⟩
      case round =>
        clear F1 hS hR
        obtain ⟨j, s, vO, hj0, hj, rfl, hS, hR, hF⟩ := hrel
        have hlen := hR.out.len
        have c3 := hS.out.c3
        have ck := own_int_cell hS.out.rows k (by omega)
        have hxk := hR.out.small.get k
        have tk := bit_test0 (s.L.getD k 0) k (by omega)
        have tB : Hid (bitAt s.L k k = (s.L.getD k 0).testBit k) := rfl
        obtain ⟨y, hy⟩ : ∃ y, y = s.L.getD k 0 := ⟨_, rfl⟩
        rw [← hy] at ck hxk tk tB
        clear hy
        by_cases hgo : j < n ∧ y.testBit k = false
        · obtain ⟨hjn, hyk⟩ := hgo
          have j1 : (j : Int) < (n : Int) := by omega
          have j2 : (0 : Int) ≤ (j : Int) := by omega
          rw [hyk] at tk
          have F2 := Lib.hid (redF_2 hjn (tB.out.trans hyk) hF.out)
          have cj := own_int_cell hS.out.rows j (by omega)
          have hxj := hR.out.small.get j
          have tj := bit_test (s.L.getD j 0) k (by omega)
          have tBj : Hid (bitAt s.L j k = (s.L.getD j 0).testBit k) := rfl
          obtain ⟨x, hx⟩ : ∃ x, x = s.L.getD j 0 := ⟨_, rfl⟩
          rw [← hx] at cj hxj tj tBj
          clear hx hyk hF tB
          cases hb : x.testBit k with
          | false =>
            rw [hb] at tj
            have F3 := Lib.hid (show (red0 n (n - (k + 1)) (k + 1) (red2 k n 0 (red1 k (n - (j + 1)) (j + 1) s))).gs = redG L from by have h9 := F2.out; rw [tBj.out, hb] at h9; exact h9)
            clear hb
            go_wp2_with fail
            go_roundw
            case rel => exact ⟨j + 1, s, vO, by omega, by omega, by go_num, hS.out, (show RSok _ _ _ from hR.out.mono (by omega)), F3.out⟩
            case measure => simp [intOf]; omega
          | true =>
            rw [hb] at tj
            have F3 := Lib.hid (show (red0 n (n - (k + 1)) (k + 1) (red2 k n 0 (red1 k (n - (j + 1)) (j + 1) (s.add j k)))).gs = redG L from by have h9 := F2.out; rw [tBj.out, hb] at h9; exact h9)
            have R3 := Lib.hid (RSok.add (a := j) (b := k) hR.out hjn hlt (by omega))
            clear hb
            go_wp2_with fail
            refine (eliminated1_any j k _ hS.out hR.out (by omega) h5 hjn hlt).mono ?_; rintro e x1 ⟨rfl, vO', hS'⟩
            have S3 := Lib.hid hS'; clear hS' c3 ck cj
            go_wp2_with fail
            go_roundw
            case rel => exact ⟨j + 1, s.add j k, vO', by omega, by omega, by go_num, S3.out, (show RSok _ _ _ from R3.out.mono (by omega)), F3.out⟩
            case measure => simp [intOf]; omega
        · have hor : n ≤ j ∨ (j < n ∧ y.testBit k = true) := by
            by_cases h9 : j < n
            · exact .inr ⟨h9, by simpa using (show ¬ y.testBit k = false from fun h8 => hgo ⟨h9, h8⟩)⟩
            · exact .inl (by omega)
          have F3 := Lib.hid (redF_3 (hor.imp id (fun h => tB.out.trans h.2)) hF.out)
          clear hgo hF tB
          have R3 := Lib.hid (RSok.mono (m' := 10 * k + 5) hR.out (by omega))
          clear hR
          obtain ⟨wi, rfl⟩ : ∃ wi : World, wi = wr := ⟨_, rfl⟩
          rcases hor with hor | ⟨hjn, hyk⟩
          all_goals
            (first | (have j1 : ¬ (j : Int) < (n : Int) := (by omega)) | ((have j1 : (j : Int) < (n : Int) := (by omega)); (rw [hyk] at tk); (clear hyk)))
            go_wp2_with fail
            clear c3 ck tk
            go_loopw [51] (fun i wr => ∃ (j : Nat) (s : RS) (vO : Value), j ≤ n ∧ i = .int .i64 j ∧ Hid (RIt w.heap.size (w1.heap.size + 1) (w1.heap.size + 1 + 1) n g cap w wr vO s) ∧ Hid (RSok n (10 * k + 5 + j) s) ∧ Hid ((red0 n (n - (k + 1)) (k + 1) (red2 k (n - j) j s)).gs = redG L)) (fun i _ => n - (intOf i).toNat)
            case atStart => exact ⟨0, s, vO, Nat.zero_le _, rfl, hS.out, R3.out, F3.out⟩
            case round =>
              clear F3 R3 hS hlen hxk
              obtain ⟨q, s, vO, hq, rfl, hS, hR, hF⟩ := hrel
              have hlen := hR.out.len
              have c3 := hS.out.c3
              by_cases hqn : q < n
              · have q1 : (q : Int) < (n : Int) := by omega
                have q2 : (0 : Int) ≤ (q : Int) := by omega
                have F2 := Lib.hid (redF_4 hqn hF.out)
                clear hF
                by_cases hqk : q = k
                · have F4 := Lib.hid (show (red0 n (n - (k + 1)) (k + 1) (red2 k (n - (q + 1)) (q + 1) s)).gs = redG L from by have h9 := F2.out; rw [if_neg (fun h => h.1 hqk)] at h9; exact h9)
                  have q3 : ((q : Int) != (k : Int)) = false := by simp; omega
                  clear hqk
                  go_wp2_with fail
                  go_roundw
                  case rel => exact ⟨q + 1, s, vO, by omega, by go_num, hS.out, (show RSok _ _ _ from hR.out.mono (by omega)), F4.out⟩
                  case measure => simp [intOf]; omega
                · have q3 : ((q : Int) != (k : Int)) = true := by simp; omega
                  have cj := own_int_cell hS.out.rows q (by omega)
                  have hxj := hR.out.small.get q
                  have tj := bit_test (s.L.getD q 0) k (by omega)
                  have tBj : Hid (bitAt s.L q k = (s.L.getD q 0).testBit k) := rfl
                  obtain ⟨x, hx⟩ : ∃ x, x = s.L.getD q 0 := ⟨_, rfl⟩
                  rw [← hx] at cj hxj tj tBj
                  clear hx
                  cases hb : x.testBit k with
                  | false =>
                    rw [hb] at tj
                    have F4 := Lib.hid (show (red0 n (n - (k + 1)) (k + 1) (red2 k (n - (q + 1)) (q + 1) s)).gs = redG L from by have h9 := F2.out; rw [if_neg (fun h => by rw [tBj.out, hb] at h; cases h.2)] at h9; exact h9)
                    clear hb hqk
                    go_wp2_with fail
                    go_roundw
                    case rel => exact ⟨q + 1, s, vO, by omega, by go_num, hS.out, (show RSok _ _ _ from hR.out.mono (by omega)), F4.out⟩
                    case measure => simp [intOf]; omega
                  | true =>
                    rw [hb] at tj
                    have F4 := Lib.hid (show (red0 n (n - (k + 1)) (k + 1) (red2 k (n - (q + 1)) (q + 1) (s.add k q))).gs = redG L from by have h9 := F2.out; rw [if_pos ⟨hqk, by rw [tBj.out, hb]⟩] at h9; exact h9)
                    have R4 := Lib.hid (RSok.add (a := k) (b := q) hR.out hlt hqn (by omega))
                    clear hb hqk
                    go_wp2_with fail
                    refine (eliminated1_any k q _ hS.out hR.out (by omega) h5 hlt hqn).mono ?_; rintro e x1 ⟨rfl, vO', hS'⟩
                    have S4 := Lib.hid hS'; clear hS' c3 cj
                    go_wp2_with fail
                    go_roundw
                    case rel => exact ⟨q + 1, s.add k q, vO', by omega, by go_num, S4.out, (show RSok _ _ _ from R4.out.mono (by omega)), F4.out⟩
                    case measure => simp [intOf]; omega
              · have F4 := Lib.hid (redF_5 (by omega) hF.out)
                have q1 : ¬ (q : Int) < (n : Int) := by omega
                clear hF
                go_wp2_with fail
                go_roundw
                case rel => exact ⟨k + 1, s, vO, by omega, by go_num, hS.out, (show RSok _ _ _ from hR.out.mono (by omega)), F4.out⟩
                case measure => simp [intOf]; omega
    · have HG := Lib.hid (show s.gs = redG L from by have h9 := hF.out; rw [show n - k = 0 from by omega] at h9; exact h9)
      have i1 : ¬ (k : Int) < (n : Int) := by omega
      have c4 := hS.out.c4
      clear hF
      go_wp2_with fail
      go_ret
      exact ⟨_, rfl, (show OwnE _ _ _ _ _ _ _ from by rw [← HG.out]; exact (show OwnE _ _ _ _ _ _ _ from hS.out.out)), hS.out.bel⟩
end Go.Proofs.Ytfcfpojldoijlaa
