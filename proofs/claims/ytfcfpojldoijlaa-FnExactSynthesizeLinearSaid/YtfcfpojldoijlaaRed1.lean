/- The elimination of a map's rows in the reference: l12Reduce. -/
import Derived.Test.YtfcfpojldoijlaaRed0
import Derived.Test.YtfcfpojldoijlaaPar2
import Derived.Test.YtfcfpojldoijlaaTyGate
import Derived.Test.YtfcfpojldoijlaaCut1
import Derived.Test.YtfcfpojldoijlaaOwnG
import Derived.Test.YtfcfpojldoijlaaTwo2
namespace Go.Proofs.Ytfcfpojldoijlaa
set_option linter.unusedSimpArgs false
set_option linter.unusedVariables false
set_option linter.unnecessarySimpa false
set_option maxRecDepth 200000
open Go.ChangeShapes Go.WideShapes Go.ChangeAt Go.RowKit

theorem bit_test0 (y k : Nat) (h : y < 9223372036854775808) : (bits .and .i64 ((y : Int) / 2 ^ k) 1 == 0) = !y.testBit k := by
  have h1 := bit_test y k h
  have e : ((y : Int) / 2 ^ k) = ((y / 2 ^ k : Nat) : Int) := by simp
  have hle : y / 2 ^ k ≤ y := Nat.div_le_self _ _
  rw [← h1, e]
  generalize y / 2 ^ k = q at hle
  rw [bits_and1 _ (by omega) (by omega)]
  have e3 : ((q : Int) % 2) = ((q % 2 : Nat) : Int) := by simp
  have h2 : q % 2 = 0 ∨ q % 2 = 1 := by omega
  rw [e3]
  rcases h2 with h2 | h2 <;> rw [h2] <;> simp
/-- The reference's state: the rows' box and the gates. -/
structure RSt (B bx n : Nat) (W0 w : World) (vO : Value) (g cap : Nat) (s : RS) : Prop where
  c0 : w.cell? ⟨bx, 0, none⟩ = some (.slice (some ⟨g, 0, none⟩) n cap)
  f0 : w.frozen? ⟨bx, 0, none⟩ = false
  own : OwnI w B (.slice (some ⟨g, 0, none⟩) n cap) (ints s.L)
  out : w.ownsRow (bx + 1) 96 3 vO s.gs.length (s.gs.flatMap E3.cs)
  ap : ∀ g', vO.ownBlock = some g' → g' ≠ g
  ne : g ≠ bx
  bel : Below B W0 w
  Bb : B ≤ bx
theorem RSt.lt {B bx n : Nat} {W0 w : World} {vO : Value} {g cap : Nat} {s : RS} (h : RSt B bx n W0 w vO g cap s) : bx < w.heap.size := World.block_lt_of_cell? _ _ h.c0
theorem RSt.row {B bx n : Nat} {W0 w : World} {vO : Value} {g cap : Nat} {s : RS} (h : RSt B bx n W0 w vO g cap s) (j : Nat) (hj : j < s.L.length) : w.cell? ⟨g, j, none⟩ = some (.int .i64 ((s.L.getD j 0 : Nat) : Int)) := by
  have := World.ownsRow.cells (show w.ownsRow B 3 1 (.slice (some ⟨g, 0, none⟩) n cap) (ints s.L).length ((ints s.L).map (Value.int .i64)) from h.own) (g := g) rfl j (.int .i64 ((s.L.getD j 0 : Nat) : Int)) (by simp [ints, List.getD, hj])
  rw [Addr.add_lit, Nat.zero_add] at this
  exact this
theorem RSt.step {B bx n : Nat} {W0 w x1 w4 : World} {vO v' : Value} {g cap gN capN a b : Nat} {s : RS} (h : RSt B bx n W0 w vO g cap s) (hx1 : Below w.heap.size w x1)
    (ho' : OwnI x1 w.heap.size (.slice (some ⟨gN, 0, none⟩) n capN) (ints (cxN s.L a b)))
    (hown : w4.ownsRow (bx + 1) 96 3 v' (s.gs.length + 1) (s.gs.flatMap E3.cs ++ E3.cs ⟨9, (a : Int), (b : Int)⟩))
    (hg : ((x1.setCell ⟨bx, 0, none⟩ (.slice (some ⟨gN, 0, none⟩) n capN)).alloc (.cells #[.int .i64 9, .int .i64 (a : Int), .int .i64 (b : Int)] 96)).grownBy w4 vO.ownBlock)
    (hat : v'.ownBlock = vO.ownBlock ∨ v'.ownBlock = some ((x1.setCell ⟨bx, 0, none⟩ (.slice (some ⟨gN, 0, none⟩) n capN)).alloc (.cells #[.int .i64 9, .int .i64 (a : Int), .int .i64 (b : Int)] 96)).heap.size) :
    RSt B bx n W0 w4 v' gN capN (s.add a b) := by
  have hlt := h.lt
  have hs := hx1.size
  have hgN := ho'.lt gN rfl
  have hO := h.out.lt
  have nb : vO.ownBlock ≠ some bx := fun e => by have := (hO bx e).1; omega
  have z1 := hg.size
  have c1 : (x1.setCell ⟨bx, 0, none⟩ (.slice (some ⟨gN, 0, none⟩) n capN)).cell? ⟨bx, 0, none⟩ = some (.slice (some ⟨gN, 0, none⟩) n capN) := World.cell?_setCell_same _ _ _ (below_cell hx1 rfl h.c0)
  have f1 : (x1.setCell ⟨bx, 0, none⟩ (.slice (some ⟨gN, 0, none⟩) n capN)).frozen? ⟨bx, 0, none⟩ = false := by rw [World.frozen?_setCell]; exact below_frz hx1 rfl hlt h.f0
  refine ⟨cell_grown hg (cell_alloc_keep _ c1) nb, frz_grown hg (by simp; omega) (frozen_alloc_keep _ c1 f1) nb, ?_, by simpa [RS.add] using hown, ?_, by omega, ?_, h.Bb⟩
  · have o1 : OwnI (x1.setCell ⟨bx, 0, none⟩ (.slice (some ⟨gN, 0, none⟩) n capN)) B (.slice (some ⟨gN, 0, none⟩) n capN) (ints (cxN s.L a b)) :=
      own_set_ne (own_le ho' (by have := h.Bb; omega)) (fun g hg => by injection hg with hg; subst hg; dsimp only; omega) _
    exact own_other hg (o1.alloc _) (fun k h1 h2 => by have h1 : gN = k := by simpa [Value.ownBlock] using h1
                                                       have := (hO k h2).2; omega)
  · intro g' hg'
    rcases hat with e | e
    · rw [e] at hg'; have := (hO g' hg').2; omega
    · rw [e] at hg'; injection hg' with hg'; simp at hg'; omega
  · have b1 : Below B W0 x1 := Below.trans h.bel (hx1.mono (by have := h.Bb; omega))
    have b2 : Below B W0 (x1.setCell ⟨bx, 0, none⟩ (.slice (some ⟨gN, 0, none⟩) n capN)) := Below.setCell b1 h.Bb _
    have b3 := Below.alloc b2 (by have := h.Bb; simp; omega) (.cells #[.int .i64 9, .int .i64 (a : Int), .int .i64 (b : Int)] 96)
    exact b3.grown hg (by have := h.Bb; simp; omega) (fun k hk => by have := (hO k hk).1; have := h.Bb; omega)
theorem redF_1 {L : List Nat} {n k : Nat} {s : RS} (hk : k < n) (h : (red0 n (n - k) k s).gs = redG L) : (red0 n (n - (k + 1)) (k + 1) (red2 k n 0 (red1 k (n - (k + 1)) (k + 1) s))).gs = redG L := by
  rw [← h, show n - k = (n - (k + 1)) + 1 from by omega]; rfl
theorem redF_2 {L : List Nat} {n k j : Nat} {s : RS} (hj : j < n) (hb : bitAt s.L k k = false) (h : (red0 n (n - (k + 1)) (k + 1) (red2 k n 0 (red1 k (n - j) j s))).gs = redG L) : (red0 n (n - (k + 1)) (k + 1) (red2 k n 0 (red1 k (n - (j + 1)) (j + 1) (if bitAt s.L j k = true then s.add j k else s)))).gs = redG L := by
  rw [← h, show n - j = (n - (j + 1)) + 1 from by omega, red1, hb]; simp
theorem redF_3 {L : List Nat} {n k j : Nat} {s : RS} (hj : n ≤ j ∨ bitAt s.L k k = true) (h : (red0 n (n - (k + 1)) (k + 1) (red2 k n 0 (red1 k (n - j) j s))).gs = redG L) : (red0 n (n - (k + 1)) (k + 1) (red2 k (n - 0) 0 s)).gs = redG L := by
  rw [← h, Nat.sub_zero]
  rcases hj with hj | hj
  · rw [show n - j = 0 from by omega]; rfl
  · rw [red1_stop hj]
theorem redF_4 {L : List Nat} {n k j : Nat} {s : RS} (hj : j < n) (h : (red0 n (n - (k + 1)) (k + 1) (red2 k (n - j) j s)).gs = redG L) : (red0 n (n - (k + 1)) (k + 1) (red2 k (n - (j + 1)) (j + 1) (if j ≠ k ∧ bitAt s.L j k = true then s.add k j else s))).gs = redG L := by
  rw [← h, show n - j = (n - (j + 1)) + 1 from by omega, red2]
theorem redF_5 {L : List Nat} {n k j : Nat} {s : RS} (hj : n ≤ j) (h : (red0 n (n - (k + 1)) (k + 1) (red2 k (n - j) j s)).gs = redG L) : (red0 n (n - (k + 1)) (k + 1) s).gs = redG L := by
  rw [← h, show n - j = 0 from by omega, red2]
set_option maxHeartbeats 16000000 in
theorem spec_l12Reduce_any (v : Value) (L : List Nat) (n : Nat) (w : World) (h : RdI w v (ints L)) (hs : Small L) (hn : L.length = n) (h1 : 1 ≤ n) (h5 : n ≤ 5) :
    Calls Try.prog 113 #[.agg #[v]] w fun e w' => ∃ u, e = .returned u ∧ OwnE w' w.heap.size 96 u E3.cs 3 (redG L) ∧ Below w.heap.size w w' := by
  obtain ⟨i0, hi, hz0, hz1, hz2⟩ := info_parts info_Gate
  have H := Lib.hid h
  obtain ⟨A, c, rfl, _⟩ := h.form
  have HOK := Lib.hid (redG_ok hs)
  have HS := Lib.hid hs; have HN := Lib.hid hn
  clear h hs hn
  go_enter Try.func113, Try.ntmps113
  go_wp2_with fail
  refine (spec_l1Own_any _ (ints L) _ (Rd.below H.out (show Below w.heap.size w _ from (by repeat (first | exact Below.refl _ _ | assumption | refine Below.drew ?_ | refine below_drewN ?_ _ | refine Below.alloc ?_ (by first | omega | (simp <;> omega)) _ | refine Below.setCell ?_ (by first | omega | (simp <;> omega)) _ | refine Below.trans ?_ (Below.mono (by assumption) (by first | omega | (simp <;> omega)))))) rfl) (by rw [ints_len, HN.out]; omega)).mono ?_; rintro e w1 ⟨v1, rfl, ho1, hb1⟩
  obtain ⟨g1, cap1, hv1, hg1a, hg1b⟩ := own_ints ho1 (by rw [HN.out]; omega)
  rw [HN.out] at hv1
  subst hv1
  have z1 := hb1.size; (simp at z1); (simp at hg1a)
  have bw1 := Lib.hid (show Below w.heap.size w w1 from (by repeat (first | exact Below.refl _ _ | assumption | refine Below.drew ?_ | refine below_drewN ?_ _ | refine Below.alloc ?_ (by first | omega | (simp <;> omega)) _ | refine Below.setCell ?_ (by first | omega | (simp <;> omega)) _ | refine Below.trans ?_ (Below.mono (by assumption) (by first | omega | (simp <;> omega))))))
  have O1 := Lib.hid (OwnI.le ho1 (base' := w.heap.size) (by simp))
  clear hb1 ho1
  go_wp2_with fail
  have S0 : Hid (RSt w.heap.size w1.heap.size n w (w1.alloc (.cells #[.slice (some ⟨g1, 0, none⟩) n cap1] 56)) (.slice none 0 0) g1 cap1 ⟨L, []⟩) :=
    (show RSt _ _ _ _ _ _ _ _ _ from ⟨(by repeat (first | (refine Eq.trans (World.cell?_alloc_at _ _ _ _ ?hh) ?_; (case hh => (simp; done)); rfl) | refine cell_alloc_keep _ ?_)), (by repeat (first | (refine World.frozen?_alloc_at _ _ _ _ ?hh; case hh => (simp; done)) | (refine frozen_alloc_lt _ ?hh ?_; case hh => first | omega | (simp <;> omega)))), OwnI.below O1.out (show Below w1.heap.size w1 _ from (by repeat (first | exact Below.refl _ _ | assumption | refine Below.drew ?_ | refine below_drewN ?_ _ | refine Below.alloc ?_ (by first | omega | (simp <;> omega)) _ | refine Below.setCell ?_ (by first | omega | (simp <;> omega)) _ | refine Below.trans ?_ (Below.mono (by assumption) (by first | omega | (simp <;> omega)))))) rfl, World.ownsRow_nil _ _ _ _, fun g' hg' => (by cases hg'), by omega, Below.alloc bw1.out (by omega) _, by omega⟩)
  have R0 : Hid (RSok n (10 * 0) ⟨L, []⟩) := (show RSok _ _ _ from ⟨HN.out, HS.out, by simp, by simp⟩)
  have F0 : Hid ((red0 n (n - 0) 0 ⟨L, []⟩).gs = redG L) := (show _ = _ from by unfold redG; rw [HN.out]; rfl)
  go_loopw [5, 6] (fun o i wr => ∃ (k g cap : Nat) (s : RS) (vO : Value), k ≤ n ∧ i = .int .i64 k ∧ o = vO ∧ Hid (RSt w.heap.size w1.heap.size n w wr vO g cap s) ∧ Hid (RSok n (10 * k) s) ∧ Hid ((red0 n (n - k) k s).gs = redG L)) (fun _ i _ => n - (intOf i).toNat)
  case atStart => exact ⟨0, g1, cap1, ⟨L, []⟩, _, Nat.zero_le _, rfl, rfl, S0, R0, F0⟩
  case round =>
    obtain ⟨k, g, cap, s, vO, hk, rfl, rfl, hS, hR, hF⟩ := hrel
    clear S0 R0 F0 O1 hg1a hg1b
    obtain ⟨wo, rfl⟩ : ∃ wo : World, wo = wr := ⟨_, rfl⟩
    by_cases hlt : k < n
    · have i1 : (k : Int) < (n : Int) := by omega
      have i2 : (0 : Int) ≤ (k : Int) := by omega
      have F1 := Lib.hid (redF_1 hlt hF.out)
      clear hF
      go_wp2_with fail
      go_loopw [5, 7] (fun o i wr => ∃ (j g cap : Nat) (s : RS) (vO : Value), k + 1 ≤ j ∧ j ≤ n ∧ i = .int .i64 j ∧ o = vO ∧ Hid (RSt w.heap.size w1.heap.size n w wr vO g cap s) ∧ Hid (RSok n (10 * k + j) s) ∧ Hid ((red0 n (n - (k + 1)) (k + 1) (red2 k n 0 (red1 k (n - j) j s))).gs = redG L)) (fun _ i _ => n - (intOf i).toNat)
      case atStart => exact ⟨k + 1, g, cap, s, _, Nat.le_refl _, by omega, by go_num, rfl, hS.out, (show RSok _ _ _ from hR.out.mono (by omega)), F1.out⟩
      case round =>
        clear F1 hS hR
        obtain ⟨j, g, cap, s, vO, hj0, hj, rfl, rfl, hS, hR, hF⟩ := hrel
        have hlen := hR.out.len
        have hlb := hS.out.lt
        have hc0 := hS.out.c0; have hf0 := hS.out.f0
        have ck := hS.out.row k (by omega)
        have hxk := hR.out.small.get k
        have tk := bit_test0 (s.L.getD k 0) k (by omega)
        have tB : Hid (bitAt s.L k k = (s.L.getD k 0).testBit k) := rfl
        obtain ⟨y, hy⟩ : ∃ y, y = s.L.getD k 0 := ⟨_, rfl⟩
        rw [← hy] at ck hxk tk tB
        clear hy
        by_cases hgo : j < n ∧ y.testBit k = false
        · obtain ⟨hjn, hyk⟩ := hgo
          have j1 : (j : Int) < (n : Int) := by omega
          have j2 : (0 : Int) ≤ (j : Int) := by omega
          rw [hyk] at tk
          have F2 := Lib.hid (redF_2 hjn (tB.out.trans hyk) hF.out)
          have cj := hS.out.row j (by omega)
          have hxj := hR.out.small.get j
          have tj := bit_test (s.L.getD j 0) k (by omega)
          have tBj : Hid (bitAt s.L j k = (s.L.getD j 0).testBit k) := rfl
          obtain ⟨x, hx⟩ : ∃ x, x = s.L.getD j 0 := ⟨_, rfl⟩
          rw [← hx] at cj hxj tj tBj
          clear hx hyk hF tB
          cases hb : x.testBit k with
          | false =>
            rw [hb] at tj
            have F3 := Lib.hid (show (red0 n (n - (k + 1)) (k + 1) (red2 k n 0 (red1 k (n - (j + 1)) (j + 1) s))).gs = redG L from by have h9 := F2.out; rw [tBj.out, hb] at h9; exact h9)
            clear hb
            go_wp2_with fail
            go_roundw
            case rel => exact ⟨j + 1, g, cap, s, _, by omega, by omega, by go_num, rfl, hS.out, (show RSok _ _ _ from hR.out.mono (by omega)), F3.out⟩
            case measure => simp [intOf]; omega
          | true =>
            rw [hb] at tj
            have F3 := Lib.hid (show (red0 n (n - (k + 1)) (k + 1) (red2 k n 0 (red1 k (n - (j + 1)) (j + 1) (s.add j k)))).gs = redG L from by have h9 := F2.out; rw [tBj.out, hb] at h9; exact h9)
            have R3 := Lib.hid (RSok.add (a := j) (b := k) hR.out hjn hlt (by omega))
            have hfew := hR.out.few
            clear hb
            go_wp2_with fail
            refine (spec_l12CX_any _ s.L j k _ hS.out.own.rd hR.out.small (by omega) (by omega) (by omega)).mono ?_; rintro e x1 ⟨v', rfl, ho', hx1⟩
            obtain ⟨gN, capN, hvN, hgN1, hgN2⟩ := own_ints ho' (by rw [cxN_len]; omega)
            rw [cxN_len, hlen] at hvN
            subst hvN
            have zx := hx1.size
            have d0 := below_cell hx1 rfl hc0
            have df := below_frz hx1 rfl hlb hf0
            have HO := Lib.hid ho'; have HX := Lib.hid hx1
            clear ho' hx1 hc0 hf0 ck cj
            have OW := Lib.hid (ownsRow_setCell_below (own_below hS.out.out HX.out rfl) (show (⟨w1.heap.size, 0, none⟩ : Addr).block < w1.heap.size + 1 from by simp) (.slice (some ⟨gN, 0, none⟩) n capN))
            go_wp2_with (at_builtin; go_must (refine wpList_append_any _ rfl _ _ 40 rfl (w1.heap.size + 1) 96 i0 (.agg #[.int .i64 0, .int .i64 0, .int .i64 0]) 3 24 Try.underlying40 hi hz0 hz1 hz2 rfl (by decide) _ s.gs.length _ rfl (OW.out.alloc _) (x1.heap.size + 1) _ 1 1 (E3.cs ⟨9, (j : Int), (k : Int)⟩) rfl (by have := reads_news (x1.setCell ⟨w1.heap.size, 0, none⟩ (.slice (some ⟨gN, 0, none⟩) n capN)) (E3.cs ⟨9, (j : Int), (k : Int)⟩) 96 3 1 rfl; simpa [E3.cs] using this) (E3.one _) (by unfold maxLen; omega) (by omega) (by simp; omega) ?_; intro v3 w4 hown3 hg3 hat3))
            have S3 := Lib.hid (RSt.step hS.out HX.out HO.out hown3 hg3 hat3)
            clear hown3 hg3 hat3
            go_wp2_with fail
            go_roundw
            case rel => exact ⟨j + 1, gN, capN, s.add j k, v3, by omega, by omega, by go_num, rfl, S3.out, (show RSok _ _ _ from R3.out.mono (by omega)), F3.out⟩
            case measure => simp [intOf]; omega
        · have hor : n ≤ j ∨ (j < n ∧ y.testBit k = true) := by
            by_cases h9 : j < n
            · exact .inr ⟨h9, by simpa using (show ¬ y.testBit k = false from fun h8 => hgo ⟨h9, h8⟩)⟩
            · exact .inl (by omega)
          have F3 := Lib.hid (redF_3 (hor.imp id (fun h => tB.out.trans h.2)) hF.out)
          clear hgo hF tB
          have R3 := Lib.hid (RSok.mono (m' := 10 * k + 5) hR.out (by omega))
          clear hR
          obtain ⟨wi, rfl⟩ : ∃ wi : World, wi = wr := ⟨_, rfl⟩
          rcases hor with hor | ⟨hjn, hyk⟩
          all_goals
            (first | (have j1 : ¬ (j : Int) < (n : Int) := (by omega)) | ((have j1 : (j : Int) < (n : Int) := (by omega)); (rw [hyk] at tk); (clear hyk)))
            go_wp2_with fail
            clear hc0 hf0 ck tk
            go_loopw [5, 8] (fun o i wr => ∃ (j g cap : Nat) (s : RS) (vO : Value), j ≤ n ∧ i = .int .i64 j ∧ o = vO ∧ Hid (RSt w.heap.size w1.heap.size n w wr vO g cap s) ∧ Hid (RSok n (10 * k + 5 + j) s) ∧ Hid ((red0 n (n - (k + 1)) (k + 1) (red2 k (n - j) j s)).gs = redG L)) (fun _ i _ => n - (intOf i).toNat)
            case atStart => exact ⟨0, g, cap, s, _, Nat.zero_le _, rfl, rfl, hS.out, R3.out, F3.out⟩
            case round =>
              clear F3 R3 hS hlb hlen hxk
              obtain ⟨q, g, cap, s, vO, hq, rfl, rfl, hS, hR, hF⟩ := hrel
              have hlen := hR.out.len
              have hlb := hS.out.lt
              have hc0 := hS.out.c0; have hf0 := hS.out.f0
              by_cases hqn : q < n
              · have q1 : (q : Int) < (n : Int) := by omega
                have q2 : (0 : Int) ≤ (q : Int) := by omega
                have F2 := Lib.hid (redF_4 hqn hF.out)
                clear hF
                by_cases hqk : q = k
                · have F4 := Lib.hid (show (red0 n (n - (k + 1)) (k + 1) (red2 k (n - (q + 1)) (q + 1) s)).gs = redG L from by have h9 := F2.out; rw [if_neg (fun h => h.1 hqk)] at h9; exact h9)
                  have q3 : ((q : Int) != (k : Int)) = false := by simp; omega
                  clear hqk
                  go_wp2_with fail
                  go_roundw
                  case rel => exact ⟨q + 1, g, cap, s, _, by omega, by go_num, rfl, hS.out, (show RSok _ _ _ from hR.out.mono (by omega)), F4.out⟩
                  case measure => simp [intOf]; omega
                · have q3 : ((q : Int) != (k : Int)) = true := by simp; omega
                  have cj := hS.out.row q (by omega)
                  have hxj := hR.out.small.get q
                  have tj := bit_test (s.L.getD q 0) k (by omega)
                  have tBj : Hid (bitAt s.L q k = (s.L.getD q 0).testBit k) := rfl
                  obtain ⟨x, hx⟩ : ∃ x, x = s.L.getD q 0 := ⟨_, rfl⟩
                  rw [← hx] at cj hxj tj tBj
                  clear hx
                  cases hb : x.testBit k with
                  | false =>
                    rw [hb] at tj
                    have F4 := Lib.hid (show (red0 n (n - (k + 1)) (k + 1) (red2 k (n - (q + 1)) (q + 1) s)).gs = redG L from by have h9 := F2.out; rw [if_neg (fun h => by rw [tBj.out, hb] at h; cases h.2)] at h9; exact h9)
                    clear hb hqk
                    go_wp2_with fail
                    go_roundw
                    case rel => exact ⟨q + 1, g, cap, s, _, by omega, by go_num, rfl, hS.out, (show RSok _ _ _ from hR.out.mono (by omega)), F4.out⟩
                    case measure => simp [intOf]; omega
                  | true =>
                    rw [hb] at tj
                    have F4 := Lib.hid (show (red0 n (n - (k + 1)) (k + 1) (red2 k (n - (q + 1)) (q + 1) (s.add k q))).gs = redG L from by have h9 := F2.out; rw [if_pos ⟨hqk, by rw [tBj.out, hb]⟩] at h9; exact h9)
                    have R4 := Lib.hid (RSok.add (a := k) (b := q) hR.out hlt hqn (by omega))
                    have hfew := hR.out.few
                    clear hb hqk
                    go_wp2_with fail
                    refine (spec_l12CX_any _ s.L k q _ hS.out.own.rd hR.out.small (by omega) (by omega) (by omega)).mono ?_; rintro e x1 ⟨v', rfl, ho', hx1⟩
                    obtain ⟨gN, capN, hvN, hgN1, hgN2⟩ := own_ints ho' (by rw [cxN_len]; omega)
                    rw [cxN_len, hlen] at hvN
                    subst hvN
                    have zx := hx1.size
                    have d0 := below_cell hx1 rfl hc0
                    have df := below_frz hx1 rfl hlb hf0
                    have HO := Lib.hid ho'; have HX := Lib.hid hx1
                    clear ho' hx1 hc0 hf0 cj
                    have OW := Lib.hid (ownsRow_setCell_below (own_below hS.out.out HX.out rfl) (show (⟨w1.heap.size, 0, none⟩ : Addr).block < w1.heap.size + 1 from by simp) (.slice (some ⟨gN, 0, none⟩) n capN))
                    go_wp2_with (at_builtin; go_must (refine wpList_append_any _ rfl _ _ 40 rfl (w1.heap.size + 1) 96 i0 (.agg #[.int .i64 0, .int .i64 0, .int .i64 0]) 3 24 Try.underlying40 hi hz0 hz1 hz2 rfl (by decide) _ s.gs.length _ rfl (OW.out.alloc _) (x1.heap.size + 1) _ 1 1 (E3.cs ⟨9, (k : Int), (q : Int)⟩) rfl (by have := reads_news (x1.setCell ⟨w1.heap.size, 0, none⟩ (.slice (some ⟨gN, 0, none⟩) n capN)) (E3.cs ⟨9, (k : Int), (q : Int)⟩) 96 3 1 rfl; simpa [E3.cs] using this) (E3.one _) (by unfold maxLen; omega) (by omega) (by simp; omega) ?_; intro v3 w4 hown3 hg3 hat3))
                    have S4 := Lib.hid (RSt.step hS.out HX.out HO.out hown3 hg3 hat3)
                    clear hown3 hg3 hat3
                    go_wp2_with fail
                    go_roundw
                    case rel => exact ⟨q + 1, gN, capN, s.add k q, v3, by omega, by go_num, rfl, S4.out, (show RSok _ _ _ from R4.out.mono (by omega)), F4.out⟩
                    case measure => simp [intOf]; omega
              · have F4 := Lib.hid (redF_5 (by omega) hF.out)
                have q1 : ¬ (q : Int) < (n : Int) := by omega
                clear hF hc0 hf0
                go_wp2_with fail
                go_roundw
                case rel => exact ⟨k + 1, g, cap, s, _, by omega, by go_num, rfl, hS.out, (show RSok _ _ _ from hR.out.mono (by omega)), F4.out⟩
                case measure => simp [intOf]; omega
    · have e : k = n := by omega
      have HG := Lib.hid (show s.gs = redG L from by have h9 := hF.out; rw [show n - k = 0 from by omega] at h9; exact h9)
      have i1 : ¬ (k : Int) < (n : Int) := by omega
      clear e hF
      go_wp2_with fail
      go_ret
      exact ⟨_, rfl, (show OwnE _ _ _ _ _ _ _ from by rw [← HG.out]; exact OwnE.le (show OwnE _ _ _ _ _ _ _ from hS.out.out) (by omega)), hS.out.bel⟩
end Go.Proofs.Ytfcfpojldoijlaa
