/- The program's code words. -/
import Derived.Test.YtlelcnlibacnaaaRm3
import Derived.Test.YtlelcnlibacnaaaSortI
import Derived.Test.YtlelcnlibacnaaaTwo2
import Derived.Sort.Row
import Derived.Sort.Grow
namespace Go.Proofs.Ytlelcnlibacnaaa
set_option linter.unusedSimpArgs false
set_option linter.unusedVariables false
set_option linter.unnecessarySimpa false
set_option maxRecDepth 200000
open Go.ChangeShapes Go.WideShapes Go.ChangeAt Go.RowKit
open Go.Sort (putRow putCells mapBlock onCells Holds grow)

theorem sort_own {w : World} {base g n cap q : Nat} {os : Array Obj} {M N : List Nat} (h : OwnN w base g n cap M) (hl2 : N.length = M.length) :
    OwnN (grow (putRow (Value.int .i64) (Go.Sort.ahead w q) g 0 (ints N).toArray) os) base g n cap N ∧ ∀ B w0, Below B w0 w → B ≤ g → Below B w0 (grow (putRow (Value.int .i64) (Go.Sort.ahead w q) g 0 (ints N).toArray) os) := by
  have hl := h.len
  have hlt := h.lt
  have hheap : (putRow (Value.int .i64) (Go.Sort.ahead w q) g 0 (ints N).toArray).heap.size = w.heap.size := by simp [putRow, mapBlock, Go.Sort.ahead]
  have hold : ∀ k, k < w.heap.size → (grow (putRow (Value.int .i64) (Go.Sort.ahead w q) g 0 (ints N).toArray) os).heap[k]? = (putRow (Value.int .i64) (Go.Sort.ahead w q) g 0 (ints N).toArray).heap[k]? := fun k hk => by
    show (_ ++ os)[k]? = _
    exact Array.getElem?_append_left (by rw [hheap]; exact hk)
  refine ⟨?_, fun B w0 hb hB => ⟨hb.os, hb.tape, hb.output, ?_, fun k hk => ?_⟩⟩
  · obtain ⟨_, h2⟩ := h
    rcases h2 with ⟨e, _⟩ | ⟨g', cap', cur, e, hb, hg, h1, h3, h4, h5⟩
    · cases e
    · injection e with e1 _ e3; subst e3; injection e1 with e1; injection e1 with e1; subst e1
      refine ⟨by simp [ints, hl2, hl], .inr ⟨g, cap, _, rfl, hb, (hold g hlt.2).trans (putRow_block hg), h1, h3, by simp [putCells, h4], ?_⟩⟩
      rw [putCells_take (by simp [ints, hl2, hl]) (by simp [ints, hl2, hl]; omega)]
      rw [Nat.mul_one, List.take_of_length_le (by simp [ints, hl2, hl])]
  · show w0.heap.size ≤ (_ ++ os).size
    rw [Array.size_append, hheap]; have := hb.size; omega
  · have hkw : k < w.heap.size := by omega
    rw [hold k hkw, putRow_far (by omega)]; exact hb.block k hk
theorem slices_Sort_any (g n cap base : Nat) (M N : List Nat) (w : World) (h : OwnN w base g n cap M) (hn : n ≤ 1048576) (hs : ((ints M).mergeSort fun x y => decide (x ≤ y)) = ints N) :
    Calls Try.prog 101 #[.slice (some ⟨g, 0, none⟩) n cap] w fun e w' => e = .returned (.tuple #[]) ∧ OwnN w' base g n cap N ∧ ∀ B w0, Below B w0 w → B ≤ g → Below B w0 w' := by
  have hl := h.len
  have hH : Holds (Value.int .i64) w g 0 (ints M).toArray := by
    intro t ht
    simp [ints] at ht
    refine ⟨?_, by simpa using h.frz t⟩
    have := own_int_cell h t ht
    simpa [ints, ht, List.getD] using this
  have hlen : N.length = M.length := by have := congrArg List.length hs; rw [List.length_mergeSort, ints_len, ints_len] at this; exact this.symm
  have hc := AnyG.slices_Sort_int Try.sortI g 0 cap (ints M) w hH h.lt.2 (by rw [ints_len]; omega)
  rw [ints_len, hl, hs] at hc
  refine (show Calls Try.prog 101 #[.slice (some ⟨g, 0, none⟩) n cap] w _ from hc).mono ?_
  rintro e w' ⟨rfl, q, os, rfl⟩
  exact ⟨rfl, sort_own h hlen⟩
theorem impl_bitsIn_any (y : Nat) (w : World) (hy : y < 4294967296) :
    Calls Try.prog 99 #[.int .i64 (y : Int)] w fun e w' => e = .returned (.int .i64 (pop y : Int)) ∧ w = w' := by
  go_enter Try.func99, Try.ntmps99
  go_wp2_with fail
  refine (OnesCount_any y _ hy).mono ?_; rintro e w' ⟨rfl, rfl⟩
  go_wp2_with fail
  go_ret
  exact ⟨rfl, rfl⟩
theorem wordTo_lt (c : Nat) : ∀ k, k ≤ 31 → wordTo c k < 2147483648
  | 0, _ => by simp [wordTo]
  | k + 1, h => by
    have ih := wordTo_lt c k (by omega)
    rw [wordTo_succ, wordStep]
    split
    · exact Nat.or_lt_two_pow (n := 31) ih (Nat.pow_lt_pow_right (by omega) (by omega))
    · exact ih
theorem codesI_grow (n k : Nat) : (codesI n k).length ≤ (codesI n (k + 1)).length := by
  rw [codesI_succ, cwStep]; split
  · exact Nat.le_refl _
  · simp
theorem codesI_mono (n : Nat) {k m : Nat} (h : k ≤ m) : (codesI n k).length ≤ (codesI n m).length := by
  induction h with
  | refl => exact Nat.le_refl _
  | step h ih => exact Nat.le_trans ih (codesI_grow n _)
theorem codesI_pos (n k : Nat) : 0 < (codesI n k).length := Nat.lt_of_lt_of_le (show 0 < (codesI n 0).length from Nat.zero_lt_one) (codesI_mono n (Nat.zero_le k))
theorem codesI_small {n : Nat} (h2 : n ≤ 5) : ∀ k, ∀ y ∈ codesI n k, y < 2147483648
  | 0, y, hy => by simp [codesI] at hy; omega
  | k + 1, y, hy => by
    rw [codesI_succ, cwStep] at hy
    split at hy
    · exact codesI_small h2 k y hy
    · rcases List.mem_append.1 hy with hy | hy
      · exact codesI_small h2 k y hy
      · obtain ⟨z, hz, rfl⟩ := List.mem_map.1 hy
        have hz2 := codesI_small h2 k z hz
        have : (2 : Nat) ^ n ≤ 2 ^ 5 := Nat.pow_le_pow_right (by omega) h2
        exact Nat.xor_lt_two_pow (n := 31) hz2 (wordTo_lt k _ (by omega))
theorem skip_1 {n c : Nat} (h : n < 4) : skipB n c = true := by unfold skipB; rw [decide_eq_true h]; rfl
theorem skip_2 {n c : Nat} (h : n < pop c + 4) : skipB n c = true := by unfold skipB; rw [decide_eq_true h, Bool.or_true]
theorem skip_3 {n c : Nat} (h1 : ¬ n < 4) (h2 : ¬ n < pop c + 4) : skipB n c = false := by unfold skipB; rw [decide_eq_false h1, decide_eq_false h2]; rfl
theorem step_skip {n k : Nat} (h : skipB n k = true) : codesI n (k + 1) = codesI n k := by rw [codesI_succ, cwStep, if_pos h]
theorem step_go {n k : Nat} (h : skipB n k = false) : codesI n (k + 1) = codesI n k ++ (codesI n k).map (· ^^^ wordTo k (2 ^ n - 1)) := by rw [codesI_succ, cwStep, if_neg (by rw [h]; exact Bool.false_ne_true)]
theorem map_next {L : List Nat} {f : Nat → Nat} {q : Nat} (h : q < L.length) (M : List Nat) : M ++ (L.take (q + 1)).map f = M ++ (L.take q).map f ++ [f (L.getD q 0)] := by
  rw [List.take_succ_eq_append_getElem h, List.map_append, List.append_assoc]
  simp [List.getD, h]
theorem ne_new {v v2 : Value} {H gC : Nat} (hat : v2.ownBlock = v.ownBlock ∨ v2.ownBlock = some H) (h : ∀ g, v.ownBlock = some g → g ≠ gC) (hH : gC < H) : ∀ g, v2.ownBlock = some g → g ≠ gC := by
  intro g hg
  rcases hat with e | e
  · exact h g (e ▸ hg)
  · rw [e] at hg; injection hg with hg; omega
theorem mem_small {C : List Nat} {q b : Nat} (h : ∀ y ∈ C, y < b) (hq : q < C.length) : C.getD q 0 < b := by
  rw [getD_lt hq]; exact h _ (List.getElem_mem _)
set_option maxHeartbeats 8000000 in
theorem impl_codeWords_any (n : Nat) (w : World) (h1 : 1 ≤ n) (h2 : n ≤ 5) :
    Calls Try.prog 60 #[.int .i64 (n : Int)] w fun e w' => ∃ v, e = .returned v ∧ OwnI w' w.heap.size v (ints (codesS n)) ∧ Below w.heap.size w w' := by
  obtain ⟨i0, hi, hz0, hz1, hz2⟩ := info_parts info_int
  have CO := code_ok h1 h2
  have HF := Lib.hid (show ∀ k, k ≤ 2 ^ n → (codesI n k).length ≤ 64 from fun k hk => Nat.le_trans (codesI_mono n hk) (by rw [CO.lenI]; exact CO.few))
  have HSm := Lib.hid (codesI_small h2)
  obtain ⟨p1, p2⟩ := pow_5 (n := (n : Int)) (by omega)
  rw [Int.toNat_natCast] at p1 p2
  obtain ⟨N, hN⟩ : ∃ N : Nat, N = 2 ^ n := ⟨_, rfl⟩
  have hNi : (2 : Int) ^ n = (N : Int) := by rw [hN]; simp
  rw [hNi] at p1 p2
  have hw : IntKind.i64.wrap ((2 : Int) ^ n) = (N : Int) := by rw [hNi]; exact IntWalk.i64_in _ (by omega)
  rw [← hN] at HF
  have HN := Lib.hid hN; clear hN hNi
  have HSort := Lib.hid (sort_codes CO)
  have HLen := Lib.hid CO.few
  clear CO
  go_enter Try.func60, Try.ntmps60
  go_wp2_with fail
  go_loopw [3, 12] (fun v i wr => ∃ (k : Nat) (vv : Value), k ≤ N ∧ i = .int .i64 k ∧ v = vv ∧ Hid (OwnI wr w.heap.size vv (ints (codesI n k))) ∧ Below w.heap.size w wr) (fun _ i _ => N - (intOf i).toNat)
  case atStart => exact ⟨0, .slice (some ⟨w.heap.size, 0, none⟩) 1 1, by omega, rfl, rfl, own_lit1 w 0, (by repeat (first | exact Below.refl _ _ | assumption | refine Below.drew ?_ | refine below_drewN ?_ _ | refine Below.alloc ?_ (by first | omega | (simp <;> omega)) _ | refine Below.setCell ?_ (by first | omega | (simp <;> omega)) _ | refine Below.trans ?_ (Below.mono (by assumption) (by first | omega | (simp <;> omega)))))⟩
  case round =>
    obtain ⟨k, vv, hk, rfl, rfl, hown, hbel⟩ := hrel
    have hsz := hbel.size
    by_cases hlt : k < N
    · have i1 : (k : Int) < (N : Int) := by omega
      by_cases hn4 : n < 4
      · have HK := Lib.hid (step_skip (skip_1 (c := k) hn4))
        have g1 : decide ((n : Int) < 4) = true := by simp; omega
        have g2 : decide (n < 4) = true := by simp; omega
        clear hn4
        go_wp2_with fail
        go_roundw
        case rel => exact ⟨k + 1, _, by omega, by go_num, rfl, (show OwnI _ _ _ _ from by rw [HK.out]; exact hown.out), hbel⟩
        case measure => simp [intOf]; omega
      · have g1 : decide ((n : Int) < 4) = false := by simp; omega
        have g2 : decide (n < 4) = false := by simp; omega
        have n4 : (4 : Int) ≤ (n : Int) := by omega
        by_cases hpk : n < pop k + 4
        · have HK := Lib.hid (step_skip (skip_2 hpk))
          have g3 : decide ((n : Int) - 4 < (pop k : Int)) = true := by simp; omega
          clear hpk hn4
          go_wp2_with fail
          refine (impl_bitsIn_any k _ (by omega)).mono ?_; rintro e w' ⟨rfl, rfl⟩
          go_wp2_with fail
          go_roundw
          case rel => exact ⟨k + 1, _, by omega, by go_num, rfl, (show OwnI _ _ _ _ from by rw [HK.out]; exact hown.out), hbel⟩
          case measure => simp [intOf]; omega
        · have HK := Lib.hid (step_go (skip_3 hn4 hpk))
          have g3 : decide ((n : Int) - 4 < (pop k : Int)) = false := by simp; omega
          clear hpk hn4
          go_wp2_with fail
          refine (impl_bitsIn_any k _ (by omega)).mono ?_; rintro e w' ⟨rfl, rfl⟩
          go_wp2_with fail
          go_loop [5, 6] (fun x m => ∃ j : Nat, j ≤ N - 1 ∧ m = .int .i64 ((j : Int) + 1) ∧ x = .int .i64 (wordTo k j : Int)) (fun _ m => N - (intOf m).toNat)
          case atStart => exact ⟨0, by omega, rfl, rfl⟩
          case round =>
            obtain ⟨j, hj, rfl, rfl⟩ := hrel
            by_cases hjl : j + 1 < N
            · have j1 : (j : Int) + 1 < (N : Int) := by omega
              obtain ⟨x, hx⟩ : ∃ x, x = wordTo k j := ⟨_, rfl⟩
              have hxl := wordTo_lt k j (by omega)
              rw [← hx] at hxl ⊢
              obtain ⟨z, hz⟩ : ∃ z, z = (j + 1) &&& k := ⟨_, rfl⟩
              have hand : bits .and .i64 ((j : Int) + 1) (k : Int) = (z : Int) := by rw [hz]; have := bits_and (j + 1) k (by omega) (by omega); simpa using this
              obtain ⟨q1, q2⟩ := pow_small j (by omega)
              have hwj : IntKind.i64.wrap ((2 : Int) ^ j) = (2 : Int) ^ j := IntWalk.i64_in _ (by omega)
              have e2 : ((2 : Int) ^ j) = ((2 ^ j : Nat) : Int) := by simp
              have hp63 : (2 : Nat) ^ j < 9223372036854775808 := by have : (2 : Nat) ^ j < 2 ^ 31 := Nat.pow_lt_pow_right (by omega) (by omega); omega
              have hor : bits .or .i64 (x : Int) ((2 : Int) ^ j) = ((x ||| 2 ^ j : Nat) : Int) := by rw [e2]; exact bits_or _ _ (by omega) hp63
              clear e2 hp63
              by_cases hzk : z = k
              · have b1 : ((z : Int) == (k : Int)) = true := beq_iff_eq.2 (by rw [hzk])
                have b2 : (z == k) = true := by simpa using hzk
                have HW := Lib.hid (show wordTo k (j + 1) = x ||| 2 ^ j from by rw [wordTo_succ, wordStep, if_pos (by rw [← hz]; exact hzk), hx])
                clear hzk hz hx
                go_wp2_with fail
                go_round
                case rel => exact ⟨j + 1, by omega, by go_num, by rw [HW.out]⟩
                case measure => simp [intOf]; omega
              · have b1 : ((z : Int) == (k : Int)) = false := by simpa using fun e => hzk (by omega)
                have b2 : (z == k) = false := by simpa using hzk
                have HW := Lib.hid (show wordTo k (j + 1) = x from by rw [wordTo_succ, wordStep, if_neg (by rw [← hz]; exact hzk), hx])
                clear hzk hz hx
                go_wp2_with fail
                go_round
                case rel => exact ⟨j + 1, by omega, by go_num, by rw [HW.out]⟩
                case measure => simp [intOf]; omega
            · have j1 : ¬ (j : Int) + 1 < (N : Int) := by omega
              obtain ⟨x, hx⟩ : ∃ x, x = wordTo k j := ⟨_, rfl⟩
              have hxl := wordTo_lt k j (by omega)
              rw [← hx] at hxl ⊢
              have HX := Lib.hid (show wordTo k (2 ^ n - 1) = x from by rw [← HN.out, show N - 1 = j from by omega, hx])
              clear hx
              obtain ⟨C, hC⟩ : ∃ C, C = codesI n k := ⟨_, rfl⟩
              have HCs := Lib.hid (HSm.out k)
              have hL64 := HF.out k (by omega)
              have hpos := codesI_pos n k
              rw [HX.out, ← hC] at HK
              rw [← hC] at hown HCs hL64 hpos
              have HC := Lib.hid hC; clear hC
              go_wp2_with fail
              refine (slices_Clone_any _ (ints C) _ hown.out.rd (by rw [ints_len]; omega)).mono ?_; rintro e w1 ⟨v1, rfl, ho1, hb1⟩
              obtain ⟨gC, capC, rfl, hgC0, hgC1⟩ := own_ints ho1 hpos
              have HCl := Lib.hid (fun q hq => own_int_cell (OwnN.of ho1) q hq)
              obtain ⟨L, hL⟩ : ∃ L, L = C.length := ⟨_, rfl⟩
              have Hne := Lib.hid (fun g (hg : Value.ownBlock _ = some g) => show g ≠ gC from by have := (hown.out.lt g hg).2; omega)
              have O1 := Lib.hid (show w1.ownsRow w.heap.size 3 1 _ (L + 0) ((ints (C ++ (C.take 0).map (· ^^^ x))).map (Value.int .i64)) from by have := OwnI.below hown.out hb1 rfl; unfold OwnI at this; rw [ints_len, ← hL] at this; simpa using this)
              have B1 := Lib.hid (below_step hbel hb1)
              rw [← hL] at hL64 hpos HCl
              rw [← hL]
              have HL := Lib.hid hL; clear hL ho1 hb1 hown hbel
              go_wp2_with fail
              go_loopw [3, 43] (fun v i wq => ∃ (q : Nat) (vv : Value), q ≤ L ∧ i = .int .i64 q ∧ v = vv ∧ Hid (wq.ownsRow w.heap.size 3 1 vv (L + q) ((ints (C ++ (C.take q).map (· ^^^ x))).map (Value.int .i64))) ∧ Hid (∀ g, vv.ownBlock = some g → g ≠ gC) ∧ Hid (∀ j, j < L → wq.cell? ⟨gC, j, none⟩ = some (.int .i64 (C.getD j 0 : Nat))) ∧ Hid (Below w.heap.size w wq) ∧ gC < wq.heap.size) (fun _ i _ => L - (intOf i).toNat)
              case atStart => exact ⟨0, _, by omega, rfl, rfl, O1, Hne, HCl, B1, hgC1⟩
              case round =>
                obtain ⟨q, vq, hq, rfl, rfl, hoq, hneq, hcq, hbq, hgq⟩ := hrel
                clear O1 Hne HCl B1
                by_cases hql : q < L
                · have i5 : (q : Int) < (L : Int) := by omega
                  obtain ⟨y, hy⟩ : ∃ y, y = C.getD q 0 := ⟨_, rfl⟩
                  have cy := hcq.out q hql
                  rw [← hy] at cy
                  have hyl : y < 2147483648 := by rw [hy]; exact mem_small HCs.out (by rw [← HL.out]; exact hql)
                  have hxor := bits_xor y x (by omega) (by omega)
                  have hnx := Lib.hid (show C ++ (C.take (q + 1)).map (· ^^^ x) = C ++ (C.take q).map (· ^^^ x) ++ [y ^^^ x] from by rw [hy]; exact map_next (by rw [← HL.out]; exact hql) C)
                  have sq := hbq.out.size
                  clear hy
                  go_wp2_with (at_builtin; go_must (refine wpList_append_any _ rfl _ _ 23 rfl w.heap.size 3 i0 (.int .i64 0) 1 8 Try.underlying23 hi hz0 hz1 hz2 rfl (by decide) _ (L + q) _ rfl (hoq.out.alloc _) (wr.heap.size + 1) _ 1 1 [.int .i64 ((y ^^^ x : Nat) : Int)] rfl (reads_one wr (y ^^^ x)) (int_one _) (by unfold maxLen; omega) (by omega) (by simp; omega) ?_; intro v2 w2 hown2 hg2 hat2; have s2 := hg2.size; (simp at s2); have H2 := Lib.hid hown2; have N2 := Lib.hid (ne_new hat2 hneq.out (by simp; omega)); have C2 := Lib.hid (show ∀ j, j < L → w2.cell? ⟨gC, j, none⟩ = some (.int .i64 (C.getD j 0 : Nat)) from fun j hj => cell_grown hg2 (cell_alloc_keep _ (hcq.out j hj)) (fun h => hneq.out gC h rfl)); have B2 := Lib.hid (grown_below (hbq.out.alloc (by omega) _) (hoq.out.alloc _) hg2 (Nat.le_refl _) (by simp; omega)); clear hown2 hg2 hat2))
                  go_roundw
                  case rel => exact ⟨q + 1, v2, by omega, by go_num, rfl, (show World.ownsRow _ _ _ _ _ _ _ from by rw [hnx.out]; have := H2.out; simpa [ints, Nat.add_assoc] using this), N2, C2, B2, by omega⟩
                  case measure => simp [intOf]; omega
                · have hqe : q = L := by omega
                  have HE := Lib.hid (show C ++ (C.take q).map (· ^^^ x) = codesI n (k + 1) from by rw [hqe, HL.out, List.take_length]; exact HK.out.symm)
                  have HQ := Lib.hid hqe; clear hqe
                  go_wp2_with fail
                  go_roundw
                  case rel =>
                    refine ⟨k + 1, _, by omega, by go_num, rfl, (show OwnI _ _ _ _ from ?_), hbq.out⟩
                    have h9 := hoq.out
                    rw [HE.out] at h9
                    have h10 : L + q = (ints (codesI n (k + 1))).length := by have := h9.1; simp at this; omega
                    unfold OwnI
                    rw [← h10]; exact h9
                  case measure => simp [intOf]; omega
    · have e : k = N := by omega
      have hC := Lib.hid (show codesI n k = codesI n (2 ^ n) from by rw [e, HN.out])
      rw [hC.out] at hown
      obtain ⟨g, cap, hv, hg0, hg1⟩ := own_ints hown.out (codesI_pos n _)
      subst hv
      have own := Lib.hid (OwnN.of hown.out)
      have hl64 := HF.out N (Nat.le_refl _)
      obtain ⟨m, hm⟩ : ∃ m, m = (codesI n (2 ^ n)).length := ⟨_, rfl⟩
      rw [HN.out, ← hm] at hl64
      rw [← hm] at own
      rw [← hm]
      clear hm hown e
      go_wp2_with fail
      refine (slices_Sort_any g m cap w.heap.size _ (codesS n) _ own.out (by omega) HSort.out).mono ?_; rintro e w1 ⟨rfl, ho1, hb1⟩
      have O1 := Lib.hid ho1.own; have B1 := Lib.hid (hb1 w.heap.size w hbel hg0); clear ho1 hb1
      go_wp2_with fail
      go_ret
      exact ⟨_, rfl, O1.out, B1.out⟩
end Go.Proofs.Ytlelcnlibacnaaa
