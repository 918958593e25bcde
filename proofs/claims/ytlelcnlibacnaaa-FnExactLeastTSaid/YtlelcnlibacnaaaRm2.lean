/- A number put into an ascending list, in the reference. -/
import Derived.Test.YtlelcnlibacnaaaRm1

import Derived.BigGuardPart
namespace Go.Proofs.Ytlelcnlibacnaaa
set_option linter.unusedSimpArgs false
set_option linter.unusedVariables false
set_option linter.unnecessarySimpa false
set_option maxRecDepth 200000
open Go.ChangeShapes Go.WideShapes Go.ChangeAt Go.RowKit

theorem cut_at : ∀ {L : List Nat} {x k : Nat}, (∀ j, j < k → L.getD j 0 < x) → k ≤ L.length → (k = L.length ∨ x ≤ L.getD k 0) → cutAt L x = k
  | [], x, k, _, hk, _ => by simp at hk; subst hk; rfl
  | y :: L, x, 0, _, _, h => by
    have : x ≤ y := h.elim (fun h => by simp at h) (fun h => by simpa using h)
    unfold cutAt
    rw [List.takeWhile_cons_of_neg (by simpa using this)]; rfl
  | y :: L, x, k + 1, h, hk, h2 => by
    have hy : y < x := by have := h 0 (by omega); simpa using this
    have ih := cut_at (L := L) (x := x) (k := k) (fun j hj => by have := h (j + 1) (by omega); simpa using this) (by simp at hk; omega) (h2.elim (fun h => Or.inl (by simp at h; omega)) (fun h => Or.inr (by simpa using h)))
    unfold cutAt at ih ⊢
    rw [List.takeWhile_cons_of_pos (by simpa using hy)]
    simp [ih]
theorem put_same {L : List Nat} {x k : Nat} (hc : cutAt L x = k) (hk : k < L.length) (he : L.getD k 0 = x) : putN L x = L := by
  unfold putN; rw [hc, if_pos ⟨hk, he⟩]
theorem put_new {L : List Nat} {x k : Nat} (hc : cutAt L x = k) (h : ¬ (k < L.length ∧ L.getD k 0 = x)) : putN L x = L.take k ++ [x] ++ L.drop k := by
  unfold putN; rw [hc, if_neg h]
theorem put_len (L : List Nat) (x : Nat) : (putN L x).length ≤ L.length + 1 := by
  unfold putN; split
  · omega
  · simp; omega
theorem put_small {L : List Nat} {x b : Nat} (h : ∀ y ∈ L, y < b) (hx : x < b) : ∀ y ∈ putN L x, y < b := by
  unfold putN; split
  · exact h
  · intro y hy
    simp only [List.append_assoc, List.mem_append, List.mem_singleton, List.cons_append, List.nil_append, List.mem_cons] at hy
    rcases hy with hy | rfl | hy
    · exact h y (List.mem_of_mem_take hy)
    · exact hx
    · exact h y (List.mem_of_mem_drop hy)
theorem reads_head {w : World} {g k : Nat} {L : List Nat} (hg : g < w.heap.size) (HC : ∀ j, j < L.length → w.cell? ⟨g, j, none⟩ = some (.int .i64 (L.getD j 0 : Nat))) (hk : k ≤ L.length) : Reads w w.heap.size 1 (some ⟨g, 0, none⟩) k ((ints (L.take k)).map (Value.int .i64)) := by
  refine ⟨by simp [ints]; omega, fun _ => ⟨_, rfl, hg, fun j u hj => ?_⟩⟩
  rw [Addr.add_lit, Nat.zero_add]
  have hjk : j < k := by have := (List.getElem?_eq_some_iff.1 hj).1; simp [ints] at this; omega
  rw [HC j (by omega)]
  have h3 : ((ints (L.take k)).map (Value.int .i64))[j]? = some (.int .i64 (L.getD j 0 : Nat)) := by
    simp [ints, List.getElem?_take, hjk, List.getD, show j < L.length by omega]
  rw [h3] at hj; exact hj
theorem reads_tail {w : World} {g k : Nat} {L : List Nat} (hg : g < w.heap.size) (HC : ∀ j, j < L.length → w.cell? ⟨g, j, none⟩ = some (.int .i64 (L.getD j 0 : Nat))) (hk : k ≤ L.length) : Reads w w.heap.size 1 (some ⟨g, k, none⟩) (L.length - k) ((ints (L.drop k)).map (Value.int .i64)) := by
  refine ⟨by simp [ints], fun _ => ⟨_, rfl, hg, fun j u hj => ?_⟩⟩
  rw [Addr.add_lit]
  have hjk : k + j < L.length := by have := (List.getElem?_eq_some_iff.1 hj).1; simp [ints] at this; omega
  rw [HC (k + j) hjk]
  have h3 : ((ints (L.drop k)).map (Value.int .i64))[j]? = some (.int .i64 (L.getD (k + j) 0 : Nat)) := by
    simp [ints, List.getElem?_drop, List.getD, hjk]
  rw [h3] at hj; exact hj
theorem reads_zero (w : World) (B : Nat) (A : Option Addr) : Reads w B 1 A 0 [] := ⟨rfl, fun h => absurd h (Nat.lt_irrefl _)⟩
theorem reads_one (w : World) (x : Nat) : Reads (w.alloc (.cells #[.int .i64 (x : Int)] 3)) (w.heap.size + 1) 1 (some ⟨w.heap.size, 0, none⟩) 1 [.int .i64 (x : Int)] :=
  ⟨rfl, fun _ => ⟨_, rfl, by simp, news_cells w [_] _⟩⟩
theorem int_one (x : Nat) : ∀ u ∈ [Value.int .i64 (x : Int)], u.oneCell' = true := fun u hu => by simp at hu; subst hu; rfl
/-- What the three appends leave. -/
theorem put_end {w w3 : World} {base m : Nat} {v : Value} {L : List Nat} {x k : Nat} {T3 : List Value} (h : w3.ownsRow w.heap.size 3 1 v m (([] ++ (ints (L.take k)).map (Value.int .i64) ++ [.int .i64 (x : Int)]) ++ T3)) (hT : T3 = (ints (L.drop k)).map (Value.int .i64)) (hp : putN L x = L.take k ++ [x] ++ L.drop k) (hb : base ≤ w.heap.size) : OwnI w3 base v (ints (putN L x)) := by
  subst hT
  have e : ([] ++ (ints (L.take k)).map (Value.int .i64) ++ [.int .i64 (x : Int)]) ++ (ints (L.drop k)).map (Value.int .i64) = (ints (putN L x)).map (Value.int .i64) := by rw [hp]; simp [ints]
  rw [e] at h
  have hm : m = (ints (putN L x)).length := by have := h.1; simp at this; omega
  subst hm
  exact own_le h hb
set_option maxHeartbeats 2000000 in
theorem spec_l1Put_any (v : Value) (L : List Nat) (x base : Nat) (w : World) (ho : OwnI w base v (ints L)) (hbw : base ≤ w.heap.size) (h0 : 0 < L.length) (hn : L.length ≤ 1000) (hs : ∀ y ∈ L, y < 2147483648) (hx : x < 2147483648) :
    Calls Try.prog 97 #[v, .int .i64 (x : Int)] w fun e w' => ∃ v', e = .returned v' ∧ OwnI w' base v' (ints (putN L x)) ∧ Below w.heap.size w w' := by
  obtain ⟨i0, hi, hz0, hz1, hz2⟩ := info_parts info_int
  obtain ⟨g, cap, rfl, hg0, hg1⟩ := own_ints ho h0
  have own := Lib.hid (OwnN.of ho); clear ho
  obtain ⟨hcp, hcm⟩ := own.out.caps
  have hR := Lib.hid (Reads.of_rd (show Rd w (.slice (some ⟨g, 0, none⟩) L.length cap) L.length 1 ((ints L).map (Value.int .i64)) from by have := own.out.rd; unfold RdI at this; rw [ints_len] at this; exact this))
  have HC := Lib.hid (fun j hj => own_int_cell own.out j hj)
  obtain ⟨n, hnl⟩ : ∃ n, n = L.length := ⟨_, rfl⟩
  rw [← hnl] at hcp hR hn h0
  rw [← hnl]
  have Hn := Lib.hid hnl; clear hnl
  go_enter Try.func97, Try.ntmps97
  go_wp2_with fail
  go_loop [5] (fun i => ∃ k : Nat, k ≤ n ∧ i = .int .i64 k ∧ Hid (∀ j, j < k → L.getD j 0 < x)) (fun i => n - (intOf i).toNat)
  case atStart => exact ⟨0, Nat.zero_le _, rfl, (fun j hj => by omega)⟩
  case round =>
    obtain ⟨k, hk, rfl, hpre⟩ := hrel
    by_cases hlt : k < n
    · obtain ⟨y, hy⟩ : ∃ y, y = L.getD k 0 := ⟨_, rfl⟩
      have cy := HC.out k (by rw [← Hn.out]; exact hlt)
      rw [← hy] at cy
      have i1 : (k : Int) < (n : Int) := by omega
      by_cases hyx : y < x
      · have b1 : decide ((y : Int) < (x : Int)) = true := by simp; omega
        have b2 : decide (y < x) = true := by simp; omega
        have HP : Hid (∀ j, j < k + 1 → L.getD j 0 < x) := by
          intro j hj
          by_cases e : j = k
          · subst e; rw [← hy]; exact hyx
          · exact hpre.out j (by omega)
        clear hy hyx
        go_wp2_with fail
        go_round
        case rel => exact ⟨k + 1, by omega, by go_num, HP⟩
        case measure => simp [intOf]; omega
      · have b1 : decide ((y : Int) < (x : Int)) = false := by simp; omega
        have b2 : decide (y < x) = false := by simp; omega
        have HCut := Lib.hid (cut_at hpre.out (by rw [← Hn.out]; exact hk) (.inr (by rw [← hy]; omega)))
        by_cases hye : y = x
        · subst hye
          have HP := Lib.hid (put_same HCut.out (by rw [← Hn.out]; exact hlt) hy.symm)
          clear hy hyx
          go_wp2_with fail
          go_ret
          refine ⟨_, rfl, ?_, Below.refl _ _⟩
          rw [HP.out]
          have := own.out.own
          rw [← Hn.out] at this
          exact this
        · have b3 : ((y : Int) == (x : Int)) = false := by simpa using fun e => hye (by omega)
          have HP := Lib.hid (put_new HCut.out (fun h => hye (by rw [hy]; exact h.2)))
          have hck : ¬ cap = k := by omega
          have RH := Lib.hid (reads_head hg1 HC.out (show k ≤ L.length by rw [← Hn.out]; exact hk))
          have RT := Lib.hid (show Reads w w.heap.size 1 (some ⟨g, k, none⟩) (n - k) ((ints (L.drop k)).map (Value.int .i64)) from by have := reads_tail hg1 HC.out (show k ≤ L.length by rw [← Hn.out]; exact hk); rwa [← Hn.out] at this)
          have HT : (ints (L.drop k)).map (Value.int .i64) = (ints (L.drop k)).map (Value.int .i64) := rfl
          clear hy hyx hye HT
          go_wp2_with (first
            | (at_builtin; refine wpList_append_any _ rfl (.tmp 34) (.tmp 37) 23 rfl w.heap.size 3 i0 (.int .i64 0) 1 8 Try.underlying23 hi hz0 hz1 hz2 rfl (by decide) (.slice (some ⟨w.heap.size, 0, none⟩) 0 0) 0 [] rfl (own_lit0 (α := Int) (f := fun _ => []) (sz := 1) w w.heap.size 3 w.heap.size rfl (Nat.le_refl _)) w.heap.size _ k _ ((ints (L.take k)).map (Value.int .i64)) rfl (RH.out.alloc (Nat.le_refl _) _) ints_one (by unfold maxLen; omega) (by omega) (by simp) ?_; intro v1 w1 hown1 hg1 hat1; have sz1 := hg1.size; (simp at sz1); have H1 := Lib.hid hown1; have T1 := Lib.hid (Reads.keep RT.out (fun p hp => (World.cell?_of_block (hg1.block p.block (by simp; omega) (fun e => by simp [Value.ownBlock] at e; omega))).trans (World.cell?_alloc_lt w _ p hp))); have hb1 := Lib.hid (Below.grown (show Below w.heap.size w (w.alloc (.cells #[] 3)) from (by repeat (first | exact Below.refl _ _ | assumption | refine Below.drew ?_ | refine below_drewN ?_ _ | refine Below.alloc ?_ (by first | omega | (simp <;> omega)) _ | refine Below.setCell ?_ (by first | omega | (simp <;> omega)) _ | refine Below.trans ?_ (Below.mono (by assumption) (by first | omega | (simp <;> omega)))))) hg1 (by simp) (fun q hq => by simp [Value.ownBlock] at hq; omega)); clear hown1 hg1 hat1)
            | (at_builtin; refine wpList_append_any _ rfl (.tmp 39) (.tmp 41) 23 rfl w.heap.size 3 i0 (.int .i64 0) 1 8 Try.underlying23 hi hz0 hz1 hz2 rfl (by decide) v1 (0 + k) _ rfl (H1.out.alloc _) (w1.heap.size + 1) _ 1 1 [.int .i64 (x : Int)] rfl (reads_one w1 x) (int_one x) (by unfold maxLen; omega) (by omega) (by simp; omega) ?_; intro v2 w2 hown2 hg2 hat2; have sz2 := hg2.size; (simp at sz2); have H2 := Lib.hid hown2; have T2 := Lib.hid (Reads.keep T1.out (fun p hp => (World.cell?_of_block (hg2.block p.block (by simp; omega) (fun e => by have := (World.ownsRow.lt H1.out _ e.symm).1; omega))).trans (World.cell?_alloc_lt w1 _ p (by omega)))); have hb2 := Lib.hid (Below.grown (Below.alloc hb1.out (by omega) (.cells #[.int .i64 (x : Int)] 3)) hg2 (by simp; omega) (fun q hq => by have := (World.ownsRow.lt H1.out _ hq).1; omega)); clear hown2 hg2 hat2)
            | (at_builtin; refine wpList_append_any _ rfl (.tmp 43) (.tmp 46) 23 rfl w.heap.size 3 i0 (.int .i64 0) 1 8 Try.underlying23 hi hz0 hz1 hz2 rfl (by decide) v2 (0 + k + 1) _ rfl H2.out w.heap.size _ _ _ _ rfl T2.out ints_one (by unfold maxLen; omega) (by omega) (by omega) ?_; intro v3 w3 hown3 hg3 hat3; have H3 := Lib.hid hown3; have hb3 := Lib.hid (Below.grown hb2.out hg3 (by omega) (fun q hq => by have := (World.ownsRow.lt H2.out _ hq).1; omega)); clear hown3 hg3 hat3))
          go_ret
          exact ⟨v3, rfl, put_end H3.out rfl HP.out hbw, hb3.out⟩
    · have e : k = n := by omega
      have HCut := Lib.hid (cut_at hpre.out (by rw [← Hn.out]; exact hk) (.inl (by rw [← Hn.out]; exact e)))
      have HP := Lib.hid (put_new HCut.out (fun h => by have := h.1; rw [← Hn.out] at this; omega))
      have RH := Lib.hid (reads_head hg1 HC.out (show k ≤ L.length by rw [← Hn.out]; exact hk))
      have RT := Lib.hid (reads_zero w w.heap.size (some ⟨g, 0, none⟩)); have RT2 := Lib.hid (reads_zero w w.heap.size (some ⟨g, k, none⟩))
      have HT := Lib.hid (show ([] : List Value) = (ints (L.drop k)).map (Value.int .i64) from by rw [List.drop_eq_nil_of_le (by rw [← Hn.out]; omega)]; rfl)
      have hnk : n - k = 0 := by omega
      subst e
      by_cases hck : cap = k
      · go_wp2_with (first
          | (at_builtin; refine wpList_append_any _ rfl (.tmp 34) (.tmp 37) 23 rfl w.heap.size 3 i0 (.int .i64 0) 1 8 Try.underlying23 hi hz0 hz1 hz2 rfl (by decide) (.slice (some ⟨w.heap.size, 0, none⟩) 0 0) 0 [] rfl (own_lit0 (α := Int) (f := fun _ => []) (sz := 1) w w.heap.size 3 w.heap.size rfl (Nat.le_refl _)) w.heap.size _ k _ ((ints (L.take k)).map (Value.int .i64)) rfl (RH.out.alloc (Nat.le_refl _) _) ints_one (by unfold maxLen; omega) (by omega) (by simp) ?_; intro v1 w1 hown1 hg1 hat1; have sz1 := hg1.size; (simp at sz1); have H1 := Lib.hid hown1; have T1 := Lib.hid (Reads.keep RT.out (fun p hp => (World.cell?_of_block (hg1.block p.block (by simp; omega) (fun e => by simp [Value.ownBlock] at e; omega))).trans (World.cell?_alloc_lt w _ p hp))); have hb1 := Lib.hid (Below.grown (show Below w.heap.size w (w.alloc (.cells #[] 3)) from (by repeat (first | exact Below.refl _ _ | assumption | refine Below.drew ?_ | refine below_drewN ?_ _ | refine Below.alloc ?_ (by first | omega | (simp <;> omega)) _ | refine Below.setCell ?_ (by first | omega | (simp <;> omega)) _ | refine Below.trans ?_ (Below.mono (by assumption) (by first | omega | (simp <;> omega)))))) hg1 (by simp) (fun q hq => by simp [Value.ownBlock] at hq; omega)); clear hown1 hg1 hat1)
          | (at_builtin; refine wpList_append_any _ rfl (.tmp 39) (.tmp 41) 23 rfl w.heap.size 3 i0 (.int .i64 0) 1 8 Try.underlying23 hi hz0 hz1 hz2 rfl (by decide) v1 (0 + k) _ rfl (H1.out.alloc _) (w1.heap.size + 1) _ 1 1 [.int .i64 (x : Int)] rfl (reads_one w1 x) (int_one x) (by unfold maxLen; omega) (by omega) (by simp; omega) ?_; intro v2 w2 hown2 hg2 hat2; have sz2 := hg2.size; (simp at sz2); have H2 := Lib.hid hown2; have T2 := Lib.hid (Reads.keep T1.out (fun p hp => (World.cell?_of_block (hg2.block p.block (by simp; omega) (fun e => by have := (World.ownsRow.lt H1.out _ e.symm).1; omega))).trans (World.cell?_alloc_lt w1 _ p (by omega)))); have hb2 := Lib.hid (Below.grown (Below.alloc hb1.out (by omega) (.cells #[.int .i64 (x : Int)] 3)) hg2 (by simp; omega) (fun q hq => by have := (World.ownsRow.lt H1.out _ hq).1; omega)); clear hown2 hg2 hat2)
          | (at_builtin; refine wpList_append_any _ rfl (.tmp 43) (.tmp 46) 23 rfl w.heap.size 3 i0 (.int .i64 0) 1 8 Try.underlying23 hi hz0 hz1 hz2 rfl (by decide) v2 (0 + k + 1) _ rfl H2.out w.heap.size _ _ _ _ rfl T2.out (by simp) (by unfold maxLen; omega) (by omega) (by omega) ?_; intro v3 w3 hown3 hg3 hat3; have H3 := Lib.hid hown3; have hb3 := Lib.hid (Below.grown hb2.out hg3 (by omega) (fun q hq => by have := (World.ownsRow.lt H2.out _ hq).1; omega)); clear hown3 hg3 hat3))
        go_ret
        exact ⟨v3, rfl, put_end H3.out HT.out HP.out hbw, hb3.out⟩
      · go_wp2_with (first
          | (at_builtin; refine wpList_append_any _ rfl (.tmp 34) (.tmp 37) 23 rfl w.heap.size 3 i0 (.int .i64 0) 1 8 Try.underlying23 hi hz0 hz1 hz2 rfl (by decide) (.slice (some ⟨w.heap.size, 0, none⟩) 0 0) 0 [] rfl (own_lit0 (α := Int) (f := fun _ => []) (sz := 1) w w.heap.size 3 w.heap.size rfl (Nat.le_refl _)) w.heap.size _ k _ ((ints (L.take k)).map (Value.int .i64)) rfl (RH.out.alloc (Nat.le_refl _) _) ints_one (by unfold maxLen; omega) (by omega) (by simp) ?_; intro v1 w1 hown1 hg1 hat1; have sz1 := hg1.size; (simp at sz1); have H1 := Lib.hid hown1; have T1 := Lib.hid (Reads.keep RT2.out (fun p hp => (World.cell?_of_block (hg1.block p.block (by simp; omega) (fun e => by simp [Value.ownBlock] at e; omega))).trans (World.cell?_alloc_lt w _ p hp))); have hb1 := Lib.hid (Below.grown (show Below w.heap.size w (w.alloc (.cells #[] 3)) from (by repeat (first | exact Below.refl _ _ | assumption | refine Below.drew ?_ | refine below_drewN ?_ _ | refine Below.alloc ?_ (by first | omega | (simp <;> omega)) _ | refine Below.setCell ?_ (by first | omega | (simp <;> omega)) _ | refine Below.trans ?_ (Below.mono (by assumption) (by first | omega | (simp <;> omega)))))) hg1 (by simp) (fun q hq => by simp [Value.ownBlock] at hq; omega)); clear hown1 hg1 hat1)
          | (at_builtin; refine wpList_append_any _ rfl (.tmp 39) (.tmp 41) 23 rfl w.heap.size 3 i0 (.int .i64 0) 1 8 Try.underlying23 hi hz0 hz1 hz2 rfl (by decide) v1 (0 + k) _ rfl (H1.out.alloc _) (w1.heap.size + 1) _ 1 1 [.int .i64 (x : Int)] rfl (reads_one w1 x) (int_one x) (by unfold maxLen; omega) (by omega) (by simp; omega) ?_; intro v2 w2 hown2 hg2 hat2; have sz2 := hg2.size; (simp at sz2); have H2 := Lib.hid hown2; have T2 := Lib.hid (Reads.keep T1.out (fun p hp => (World.cell?_of_block (hg2.block p.block (by simp; omega) (fun e => by have := (World.ownsRow.lt H1.out _ e.symm).1; omega))).trans (World.cell?_alloc_lt w1 _ p (by omega)))); have hb2 := Lib.hid (Below.grown (Below.alloc hb1.out (by omega) (.cells #[.int .i64 (x : Int)] 3)) hg2 (by simp; omega) (fun q hq => by have := (World.ownsRow.lt H1.out _ hq).1; omega)); clear hown2 hg2 hat2)
          | (at_builtin; refine wpList_append_any _ rfl (.tmp 43) (.tmp 46) 23 rfl w.heap.size 3 i0 (.int .i64 0) 1 8 Try.underlying23 hi hz0 hz1 hz2 rfl (by decide) v2 (0 + k + 1) _ rfl H2.out w.heap.size _ _ _ _ rfl T2.out (by simp) (by unfold maxLen; omega) (by omega) (by omega) ?_; intro v3 w3 hown3 hg3 hat3; have H3 := Lib.hid hown3; have hb3 := Lib.hid (Below.grown hb2.out hg3 (by omega) (fun q hq => by have := (World.ownsRow.lt H2.out _ hq).1; omega)); clear hown3 hg3 hat3))
        go_ret
        exact ⟨v3, rfl, put_end H3.out HT.out HP.out hbw, hb3.out⟩
end Go.Proofs.Ytlelcnlibacnaaa
