/- The program's identity tableau. -/
import Derived.Test.YtnckabohlakbgaaGreatZ21M
import Derived.Test.YtnckabohlakbgaaGreatZ06Brk
namespace Go.Proofs.YtnckabohlakbgaaGreat
set_option linter.unusedSimpArgs false
set_option linter.unusedVariables false
set_option linter.unnecessarySimpa false
set_option maxRecDepth 200000
open Go.ChangeShapes Go.WideShapes Go.ChangeAt Go.RowKit

attribute [local go_sem ↓] Go.wp_at_zero Go.wp_at_succ
set_option maxHeartbeats 8000000 in
theorem impl_identity_any (n : Int) (w : World) (h0 : 0 ≤ n) (h1 : n ≤ 60) :
    Calls Tryz.prog 25 #[.int .i64 n] w fun e w' => ∃ u0 u1, e = .returned (.agg #[.int .i64 n, u0, u1]) ∧ OwnE w' w.heap.size 33 u0 E3.cs 3 (idX n.toNat) ∧ OwnE w' w.heap.size 33 u1 E3.cs 3 (idZ n.toNat) ∧ Apart u0 u1 ∧ Below w.heap.size w w' := by
  obtain ⟨m, rfl⟩ := Int.eq_ofNat_of_zero_le h0
  rw [Int.toNat_natCast]
  obtain ⟨i0, hi, hz0, hz1, hz2⟩ := info_parts info_Pauli
  go_enter Tryz.func25, Tryz.ntmps25
  go_wp2_with fail
  go_loopw [8] (fun i wr => ∃ (k : Nat) (vx vz : Value), k ≤ m ∧ i = .int .i64 k ∧ wr.cell? ⟨w.heap.size + 1, 0, none⟩ = some (.int .i64 m) ∧ wr.cell? ⟨w.heap.size + 1, 1, none⟩ = some vx ∧ wr.cell? ⟨w.heap.size + 1, 2, none⟩ = some vz ∧ wr.frozen? ⟨w.heap.size + 1, 1, none⟩ = false ∧ wr.frozen? ⟨w.heap.size + 1, 2, none⟩ = false ∧ Hid (wr.ownsRow (w.heap.size + 2) 33 3 vx k ((idX k).flatMap E3.cs)) ∧ Hid (wr.ownsRow (w.heap.size + 2) 33 3 vz k ((idZ k).flatMap E3.cs)) ∧ Hid (Apart vx vz) ∧ Below (w.heap.size + 1) (w.alloc (.cells #[.int .i64 0, .slice none 0 0, .slice none 0 0] 29)) wr ∧ w.heap.size + 2 ≤ wr.heap.size) (fun i _ => m - (intOf i).toNat)
  case atStart => exact ⟨0, .slice none 0 0, .slice none 0 0, Nat.zero_le _, rfl, by simp, by simp, by simp, by simp, by simp, World.ownsRow_nil _ _ _ _, World.ownsRow_nil _ _ _ _, apart_nil _, belo, by simp⟩
  case round =>
    obtain ⟨k, vx, vz, hk, rfl, c0, c1, c2, f1, f2, hox, hoz, hap, hbel, hsz⟩ := hrel
    by_cases hlt : k < m
    · have i1 : (k : Int) < (m : Int) := by omega
      obtain ⟨p1, p2⟩ := pow_small k (by omega)
      have hw : IntKind.i64.wrap ((2 : Int) ^ k) = (2 : Int) ^ k := IntWalk.i64_in _ (by omega)
      go_wp2_with fail
      refine AnyB.begin (S := (fun w' => w'.cell? ⟨w.heap.size + 1, 1, none⟩ = some vx ∧ w'.cell? ⟨w.heap.size + 1, 2, none⟩ = some vz)) [15, 17] (by kernel_rfl) ?_ (fun hHeld0 => ?_)
      · ((try dsimp only); (first | exact ⟨c1, c2⟩ | (go_split_ands; exact ⟨cell_alloc_keep _ (by assumption), cell_alloc_keep _ (by assumption)⟩)))
      refine AnyB.tq (i := 0) (h := ?_)
      refine AnyB.tk (i := 1) (h := ?_)
      refine AnyB.tq (i := 2) (h := ?_)
      refine AnyB.tq (i := 3) (h := ?_)
      refine AnyB.tq (i := 4) (h := ?_)
      refine AnyB.tq (i := 7) (h := ?_)
      refine AnyB.tk (i := 8) (h := ?_)
      refine AnyB.tq (i := 9) (h := ?_)
      refine AnyB.tq (i := 10) (h := ?_)
      refine AnyB.tq (i := 11) (h := ?_)
      refine AnyB.each (rs := [5, 12]) (by kernel_rfl) (by simp) ?_
      refine EachB.cons rfl (fun K hK hB => ?_) ?_
      · skip
        go_simp
        refine hK.out _ _ ?_ (fun hHeld1 => ?_)
        · ((try dsimp only); (first | exact ⟨c1, c2⟩ | (go_split_ands; exact ⟨cell_alloc_keep _ (by assumption), cell_alloc_keep _ (by assumption)⟩)))
        clear hB hK K hHeld0
        refine AnyB.each (rs := [6, 12]) (by kernel_rfl) (by simp) ?_
        refine EachB.cons rfl (fun K hK hB => ?_) ?_
        · skip
          (refine step_append_lies _ (by rfl) (.tmp 12) (.tmp 16) 27 (by rfl) (w.heap.size + 2) 33 i0 (.agg #[.int .i64 0, .int .i64 0, .int .i64 0]) 3 24 Tryz.underlying27 hi hz0 hz1 hz2 rfl (by omega) vx k _ (by rfl) (own_below hox.out belo rfl) _ 1 1 [.int .i64 0, .int .i64 (2 ^ k), .int .i64 0] (by rfl) (by rfl) (by repeat (first | ((with_reducible refine news_at _ _ _ _ ?_); (simp; done)) | (with_reducible refine news_drew ?_) | (with_reducible refine news_up _ ?_) | (with_reducible refine news_far hn2 (by simp) ?_))) (E3.one ⟨0, 2 ^ k, 0⟩) (by omega) (by unfold maxLen; omega) (by omega) (by first | omega | (simp; omega)) _ rfl ?_; intro g1 cp1 w1 hown1 hgr1 hat1 hlt1; obtain ⟨qo, qb, q1, q2, qc, qf, hn1⟩ := two_step belo hox.out hoz.out hap.out hbel (by omega) hgr1; replace hap := Lib.hid (apart_app hap.out.symm (fun g hg => (Nat.lt_of_lt_of_le (hoz.out.lt g hg).2 q1)) hat1 (n := k + 1) (c := cp1)).symm; replace c0 := qc _ _ c0; replace c1 := qc _ _ c1; replace c2 := qc _ _ c2; replace f1 := qf _ f1; replace f2 := qf _ f2; replace hox := Lib.hid hown1; replace hoz := Lib.hid qo; replace hbel := qb; replace hsz := Nat.le_trans hsz (Nat.le_trans q1 q2); clear qo qb q1 q2 qc qf hown1 hgr1 hat1)
          refine hK.out _ _ ?_ (fun hHeld2 => ?_)
          · ((try dsimp only); (first | exact ⟨c1, c2⟩ | (go_split_ands; exact ⟨cell_alloc_keep _ (by assumption), cell_alloc_keep _ (by assumption)⟩)))
          clear hB hK K hHeld1
          refine AnyB.tq (i := 14) (h := ?_)
          refine AnyB.each (rs := [12]) (by kernel_rfl) (by simp) ?_
          refine EachB.cons rfl (fun K hK hB => ?_) ?_
          · skip
            go_simp
            refine hK.out _ _ ?_ (fun hHeld3 => ?_)
            · ((try dsimp only); (first | exact ⟨c1, c2⟩ | (go_split_ands; exact ⟨cell_alloc_keep _ (by assumption), cell_alloc_keep _ (by assumption)⟩)))
            clear hB hK K hHeld2
            refine AnyB.each (rs := [13]) (by kernel_rfl) (by simp) ?_
            refine EachB.cons rfl (fun K hK hB => ?_) ?_
            · skip
              (refine step_append_lies _ (by rfl) (.tmp 19) (.tmp 23) 27 (by rfl) (w.heap.size + 2) 33 i0 (.agg #[.int .i64 0, .int .i64 0, .int .i64 0]) 3 24 Tryz.underlying27 hi hz0 hz1 hz2 rfl (by omega) vz k _ (by rfl) (own_below hoz.out belo rfl) _ 1 1 [.int .i64 0, .int .i64 0, .int .i64 (2 ^ k)] (by rfl) (by rfl) (by repeat (first | ((with_reducible refine news_at _ _ _ _ ?_); (simp; done)) | (with_reducible refine news_drew ?_) | (with_reducible refine news_up _ ?_) | (with_reducible refine news_far hn1 (by simp) ?_))) (E3.one ⟨0, 0, 2 ^ k⟩) (by omega) (by unfold maxLen; omega) (by omega) (by first | omega | (simp; omega)) _ rfl ?_; intro g2 cp2 w2 hown2 hgr2 hat2 hlt2; obtain ⟨qo, qb, q1, q2, qc, qf, hn2⟩ := two_step belo hoz.out hox.out hap.out.symm hbel (by omega) hgr2; replace hap := Lib.hid (apart_app hap.out (fun g hg => (Nat.lt_of_lt_of_le (hox.out.lt g hg).2 q1)) hat2 (n := k + 1) (c := cp2)); replace c0 := qc _ _ c0; replace c1 := qc _ _ c1; replace c2 := qc _ _ c2; replace f1 := qf _ f1; replace f2 := qf _ f2; replace hoz := Lib.hid hown2; replace hox := Lib.hid qo; replace hbel := qb; replace hsz := Nat.le_trans hsz (Nat.le_trans q1 q2); clear qo qb q1 q2 qc qf hown2 hgr2 hat2)
              refine hK.out _ _ ?_ (fun hHeld4 => ?_)
              · ((try dsimp only); (first | exact ⟨c1, c2⟩ | (go_split_ands; exact ⟨cell_alloc_keep _ (by assumption), cell_alloc_keep _ (by assumption)⟩)))
              clear hB hK K hHeld3
              refine AnyB.each (rs := [15]) (by kernel_rfl) (by simp) ?_
              refine EachB.cons rfl (fun K hK hB => ?_) ?_
              · skip
                go_simp
                refine hB.out _ _ rfl ?_
                clear hB hK K
                refine AnyB.tq (i := 16) (h := ?_)
                refine AnyB.each (rs := [17]) (by kernel_rfl) (by simp) ?_
                refine EachB.cons rfl (fun K hK hB => ?_) ?_
                · skip
                  go_simp
                  refine hB.out _ _ rfl ?_
                  clear hB hK K
                  refine AnyB.none (by kernel_rfl) ?_ _
                  go_wp2_with fail
                  go_roundw
                  case rel =>
                    refine ⟨k + 1, .slice (some ⟨g1, 0, none⟩) (k + 1) cp1, .slice (some ⟨g2, 0, none⟩) (k + 1) cp2, by omega, by go_num, cell_set_other (cell_set_other c0), cell_set_other (World.cell?_setCell_same _ _ _ c1), World.cell?_setCell_same _ _ _ (cell_set_other c2), by rw [World.frozen?_setCell, World.frozen?_setCell]; exact f1, by rw [World.frozen?_setCell, World.frozen?_setCell]; exact f2, ?_, ?_, hap, Below.setCell (Below.setCell hbel (by simp) _) (by simp) _, by simp; omega⟩
                    · show World.ownsRow _ _ _ _ _ _ _
                      rw [idX_succ, List.flatMap_append]
                      exact ownsRow_setCell_below (ownsRow_setCell_below hox.out (by simp) _) (by simp) _
                    · show World.ownsRow _ _ _ _ _ _ _
                      rw [idZ_succ, List.flatMap_append]
                      exact ownsRow_setCell_below (ownsRow_setCell_below hoz.out (by simp) _) (by simp) _
                  case measure => simp [intOf]; omega
                exact EachB.nil
              exact EachB.nil
            exact EachB.nil
          exact EachB.nil
        refine EachB.cons rfl (fun K hK hB => ?_) ?_
        · skip
          go_simp
          refine hK.out _ _ ?_ (fun hHeld5 => ?_)
          · ((try dsimp only); (first | exact ⟨c1, c2⟩ | (go_split_ands; exact ⟨cell_alloc_keep _ (by assumption), cell_alloc_keep _ (by assumption)⟩)))
          clear hB hK K hHeld1
          refine AnyB.each (rs := [6]) (by kernel_rfl) (by simp) ?_
          refine EachB.cons rfl (fun K hK hB => ?_) ?_
          · skip
            (refine step_append_lies _ (by rfl) (.tmp 12) (.tmp 16) 27 (by rfl) (w.heap.size + 2) 33 i0 (.agg #[.int .i64 0, .int .i64 0, .int .i64 0]) 3 24 Tryz.underlying27 hi hz0 hz1 hz2 rfl (by omega) vx k _ (by rfl) (own_below hox.out belo rfl) _ 1 1 [.int .i64 0, .int .i64 (2 ^ k), .int .i64 0] (by rfl) (by rfl) (by repeat (first | ((with_reducible refine news_at _ _ _ _ ?_); (simp; done)) | (with_reducible refine news_drew ?_) | (with_reducible refine news_up _ ?_) | (with_reducible refine news_far hn2 (by simp) ?_))) (E3.one ⟨0, 2 ^ k, 0⟩) (by omega) (by unfold maxLen; omega) (by omega) (by first | omega | (simp; omega)) _ rfl ?_; intro g1 cp1 w1 hown1 hgr1 hat1 hlt1; obtain ⟨qo, qb, q1, q2, qc, qf, hn1⟩ := two_step belo hox.out hoz.out hap.out hbel (by omega) hgr1; replace hap := Lib.hid (apart_app hap.out.symm (fun g hg => (Nat.lt_of_lt_of_le (hoz.out.lt g hg).2 q1)) hat1 (n := k + 1) (c := cp1)).symm; replace c0 := qc _ _ c0; replace c1 := qc _ _ c1; replace c2 := qc _ _ c2; replace f1 := qf _ f1; replace f2 := qf _ f2; replace hox := Lib.hid hown1; replace hoz := Lib.hid qo; replace hbel := qb; replace hsz := Nat.le_trans hsz (Nat.le_trans q1 q2); clear qo qb q1 q2 qc qf hown1 hgr1 hat1)
            refine hK.out _ _ ?_ (fun hHeld6 => ?_)
            · ((try dsimp only); (first | exact ⟨c1, c2⟩ | (go_split_ands; exact ⟨cell_alloc_keep _ (by assumption), cell_alloc_keep _ (by assumption)⟩)))
            clear hB hK K hHeld5
            refine AnyB.tq (i := 14) (h := ?_)
            refine AnyB.each (rs := [13]) (by kernel_rfl) (by simp) ?_
            refine EachB.cons rfl (fun K hK hB => ?_) ?_
            · skip
              (refine step_append_lies _ (by rfl) (.tmp 19) (.tmp 23) 27 (by rfl) (w.heap.size + 2) 33 i0 (.agg #[.int .i64 0, .int .i64 0, .int .i64 0]) 3 24 Tryz.underlying27 hi hz0 hz1 hz2 rfl (by omega) vz k _ (by rfl) (own_below hoz.out belo rfl) _ 1 1 [.int .i64 0, .int .i64 0, .int .i64 (2 ^ k)] (by rfl) (by rfl) (by repeat (first | ((with_reducible refine news_at _ _ _ _ ?_); (simp; done)) | (with_reducible refine news_drew ?_) | (with_reducible refine news_up _ ?_) | (with_reducible refine news_far hn1 (by simp) ?_))) (E3.one ⟨0, 0, 2 ^ k⟩) (by omega) (by unfold maxLen; omega) (by omega) (by first | omega | (simp; omega)) _ rfl ?_; intro g2 cp2 w2 hown2 hgr2 hat2 hlt2; obtain ⟨qo, qb, q1, q2, qc, qf, hn2⟩ := two_step belo hoz.out hox.out hap.out.symm hbel (by omega) hgr2; replace hap := Lib.hid (apart_app hap.out (fun g hg => (Nat.lt_of_lt_of_le (hox.out.lt g hg).2 q1)) hat2 (n := k + 1) (c := cp2)); replace c0 := qc _ _ c0; replace c1 := qc _ _ c1; replace c2 := qc _ _ c2; replace f1 := qf _ f1; replace f2 := qf _ f2; replace hoz := Lib.hid hown2; replace hox := Lib.hid qo; replace hbel := qb; replace hsz := Nat.le_trans hsz (Nat.le_trans q1 q2); clear qo qb q1 q2 qc qf hown2 hgr2 hat2)
              refine hK.out _ _ ?_ (fun hHeld7 => ?_)
              · ((try dsimp only); (first | exact ⟨c1, c2⟩ | (go_split_ands; exact ⟨cell_alloc_keep _ (by assumption), cell_alloc_keep _ (by assumption)⟩)))
              clear hB hK K hHeld6
              refine AnyB.each (rs := [15]) (by kernel_rfl) (by simp) ?_
              refine EachB.cons rfl (fun K hK hB => ?_) ?_
              · skip
                go_simp
                refine hB.out _ _ rfl ?_
                clear hB hK K
                refine AnyB.tq (i := 16) (h := ?_)
                refine AnyB.each (rs := [17]) (by kernel_rfl) (by simp) ?_
                refine EachB.cons rfl (fun K hK hB => ?_) ?_
                · skip
                  go_simp
                  refine hB.out _ _ rfl ?_
                  clear hB hK K
                  refine AnyB.none (by kernel_rfl) ?_ _
                  go_wp2_with fail
                  go_roundw
                  case rel =>
                    refine ⟨k + 1, .slice (some ⟨g1, 0, none⟩) (k + 1) cp1, .slice (some ⟨g2, 0, none⟩) (k + 1) cp2, by omega, by go_num, cell_set_other (cell_set_other c0), cell_set_other (World.cell?_setCell_same _ _ _ c1), World.cell?_setCell_same _ _ _ (cell_set_other c2), by rw [World.frozen?_setCell, World.frozen?_setCell]; exact f1, by rw [World.frozen?_setCell, World.frozen?_setCell]; exact f2, ?_, ?_, hap, Below.setCell (Below.setCell hbel (by simp) _) (by simp) _, by simp; omega⟩
                    · show World.ownsRow _ _ _ _ _ _ _
                      rw [idX_succ, List.flatMap_append]
                      exact ownsRow_setCell_below (ownsRow_setCell_below hox.out (by simp) _) (by simp) _
                    · show World.ownsRow _ _ _ _ _ _ _
                      rw [idZ_succ, List.flatMap_append]
                      exact ownsRow_setCell_below (ownsRow_setCell_below hoz.out (by simp) _) (by simp) _
                  case measure => simp [intOf]; omega
                exact EachB.nil
              exact EachB.nil
            exact EachB.nil
          exact EachB.nil
        exact EachB.nil
      refine EachB.cons rfl (fun K hK hB => ?_) ?_
      · skip
        go_simp
        refine hK.out _ _ ?_ (fun hHeld8 => ?_)
        · ((try dsimp only); (first | exact ⟨c1, c2⟩ | (go_split_ands; exact ⟨cell_alloc_keep _ (by assumption), cell_alloc_keep _ (by assumption)⟩)))
        clear hB hK K hHeld0
        refine AnyB.each (rs := [5]) (by kernel_rfl) (by simp) ?_
        refine EachB.cons rfl (fun K hK hB => ?_) ?_
        · skip
          go_simp
          refine hK.out _ _ ?_ (fun hHeld9 => ?_)
          · ((try dsimp only); (first | exact ⟨c1, c2⟩ | (go_split_ands; exact ⟨cell_alloc_keep _ (by assumption), cell_alloc_keep _ (by assumption)⟩)))
          clear hB hK K hHeld8
          refine AnyB.each (rs := [6]) (by kernel_rfl) (by simp) ?_
          refine EachB.cons rfl (fun K hK hB => ?_) ?_
          · skip
            (refine step_append_lies _ (by rfl) (.tmp 12) (.tmp 16) 27 (by rfl) (w.heap.size + 2) 33 i0 (.agg #[.int .i64 0, .int .i64 0, .int .i64 0]) 3 24 Tryz.underlying27 hi hz0 hz1 hz2 rfl (by omega) vx k _ (by rfl) (own_below hox.out belo rfl) _ 1 1 [.int .i64 0, .int .i64 (2 ^ k), .int .i64 0] (by rfl) (by rfl) (by repeat (first | ((with_reducible refine news_at _ _ _ _ ?_); (simp; done)) | (with_reducible refine news_drew ?_) | (with_reducible refine news_up _ ?_) | (with_reducible refine news_far hn2 (by simp) ?_))) (E3.one ⟨0, 2 ^ k, 0⟩) (by omega) (by unfold maxLen; omega) (by omega) (by first | omega | (simp; omega)) _ rfl ?_; intro g1 cp1 w1 hown1 hgr1 hat1 hlt1; obtain ⟨qo, qb, q1, q2, qc, qf, hn1⟩ := two_step belo hox.out hoz.out hap.out hbel (by omega) hgr1; replace hap := Lib.hid (apart_app hap.out.symm (fun g hg => (Nat.lt_of_lt_of_le (hoz.out.lt g hg).2 q1)) hat1 (n := k + 1) (c := cp1)).symm; replace c0 := qc _ _ c0; replace c1 := qc _ _ c1; replace c2 := qc _ _ c2; replace f1 := qf _ f1; replace f2 := qf _ f2; replace hox := Lib.hid hown1; replace hoz := Lib.hid qo; replace hbel := qb; replace hsz := Nat.le_trans hsz (Nat.le_trans q1 q2); clear qo qb q1 q2 qc qf hown1 hgr1 hat1)
            refine hK.out _ _ ?_ (fun hHeld10 => ?_)
            · ((try dsimp only); (first | exact ⟨c1, c2⟩ | (go_split_ands; exact ⟨cell_alloc_keep _ (by assumption), cell_alloc_keep _ (by assumption)⟩)))
            clear hB hK K hHeld9
            refine AnyB.tq (i := 14) (h := ?_)
            refine AnyB.each (rs := [13]) (by kernel_rfl) (by simp) ?_
            refine EachB.cons rfl (fun K hK hB => ?_) ?_
            · skip
              (refine step_append_lies _ (by rfl) (.tmp 19) (.tmp 23) 27 (by rfl) (w.heap.size + 2) 33 i0 (.agg #[.int .i64 0, .int .i64 0, .int .i64 0]) 3 24 Tryz.underlying27 hi hz0 hz1 hz2 rfl (by omega) vz k _ (by rfl) (own_below hoz.out belo rfl) _ 1 1 [.int .i64 0, .int .i64 0, .int .i64 (2 ^ k)] (by rfl) (by rfl) (by repeat (first | ((with_reducible refine news_at _ _ _ _ ?_); (simp; done)) | (with_reducible refine news_drew ?_) | (with_reducible refine news_up _ ?_) | (with_reducible refine news_far hn1 (by simp) ?_))) (E3.one ⟨0, 0, 2 ^ k⟩) (by omega) (by unfold maxLen; omega) (by omega) (by first | omega | (simp; omega)) _ rfl ?_; intro g2 cp2 w2 hown2 hgr2 hat2 hlt2; obtain ⟨qo, qb, q1, q2, qc, qf, hn2⟩ := two_step belo hoz.out hox.out hap.out.symm hbel (by omega) hgr2; replace hap := Lib.hid (apart_app hap.out (fun g hg => (Nat.lt_of_lt_of_le (hox.out.lt g hg).2 q1)) hat2 (n := k + 1) (c := cp2)); replace c0 := qc _ _ c0; replace c1 := qc _ _ c1; replace c2 := qc _ _ c2; replace f1 := qf _ f1; replace f2 := qf _ f2; replace hoz := Lib.hid hown2; replace hox := Lib.hid qo; replace hbel := qb; replace hsz := Nat.le_trans hsz (Nat.le_trans q1 q2); clear qo qb q1 q2 qc qf hown2 hgr2 hat2)
              refine hK.out _ _ ?_ (fun hHeld11 => ?_)
              · ((try dsimp only); (first | exact ⟨c1, c2⟩ | (go_split_ands; exact ⟨cell_alloc_keep _ (by assumption), cell_alloc_keep _ (by assumption)⟩)))
              clear hB hK K hHeld10
              refine AnyB.each (rs := [15]) (by kernel_rfl) (by simp) ?_
              refine EachB.cons rfl (fun K hK hB => ?_) ?_
              · skip
                go_simp
                refine hB.out _ _ rfl ?_
                clear hB hK K
                refine AnyB.tq (i := 16) (h := ?_)
                refine AnyB.each (rs := [17]) (by kernel_rfl) (by simp) ?_
                refine EachB.cons rfl (fun K hK hB => ?_) ?_
                · skip
                  go_simp
                  refine hB.out _ _ rfl ?_
                  clear hB hK K
                  refine AnyB.none (by kernel_rfl) ?_ _
                  go_wp2_with fail
                  go_roundw
                  case rel =>
                    refine ⟨k + 1, .slice (some ⟨g1, 0, none⟩) (k + 1) cp1, .slice (some ⟨g2, 0, none⟩) (k + 1) cp2, by omega, by go_num, cell_set_other (cell_set_other c0), cell_set_other (World.cell?_setCell_same _ _ _ c1), World.cell?_setCell_same _ _ _ (cell_set_other c2), by rw [World.frozen?_setCell, World.frozen?_setCell]; exact f1, by rw [World.frozen?_setCell, World.frozen?_setCell]; exact f2, ?_, ?_, hap, Below.setCell (Below.setCell hbel (by simp) _) (by simp) _, by simp; omega⟩
                    · show World.ownsRow _ _ _ _ _ _ _
                      rw [idX_succ, List.flatMap_append]
                      exact ownsRow_setCell_below (ownsRow_setCell_below hox.out (by simp) _) (by simp) _
                    · show World.ownsRow _ _ _ _ _ _ _
                      rw [idZ_succ, List.flatMap_append]
                      exact ownsRow_setCell_below (ownsRow_setCell_below hoz.out (by simp) _) (by simp) _
                  case measure => simp [intOf]; omega
                exact EachB.nil
              exact EachB.nil
            exact EachB.nil
          exact EachB.nil
        exact EachB.nil
      exact EachB.nil
    · have e : k = m := by omega
      subst e
      have r0 : wr.cell? ⟨w.heap.size, 0, none⟩ = some (.int .i64 0) := by rw [hbel.cell (p := ⟨w.heap.size, 0, none⟩) (by simp)]; exact cela
      have r1 : wr.cell? ⟨w.heap.size, 1, none⟩ = some (.slice none 0 0) := by rw [hbel.cell (p := ⟨w.heap.size, 1, none⟩) (by simp)]; exact cela
      have r2 : wr.cell? ⟨w.heap.size, 2, none⟩ = some (.slice none 0 0) := by rw [hbel.cell (p := ⟨w.heap.size, 2, none⟩) (by simp)]; exact cela
      have q0 : wr.frozen? ⟨w.heap.size, 0, none⟩ = false := by rw [hbel.frozen (p := ⟨w.heap.size, 0, none⟩) (by simp)]; exact froza
      have q1 : wr.frozen? ⟨w.heap.size, 1, none⟩ = false := by rw [hbel.frozen (p := ⟨w.heap.size, 1, none⟩) (by simp)]; exact froza
      have q2 : wr.frozen? ⟨w.heap.size, 2, none⟩ = false := by rw [hbel.frozen (p := ⟨w.heap.size, 2, none⟩) (by simp)]; exact froza
      obtain ⟨a9, cp9, rfl⟩ := own_form hox.out
      obtain ⟨b9, cq9, rfl⟩ := own_form hoz.out
      have hZ := box_set3 (.int .i64 (k : Int)) (.slice a9 k cp9) (.slice b9 k cq9) r0 r1 r2
      go_wp2_with fail
      refine bodyPost_ret (v := .agg #[.int .i64 (k : Int), .slice a9 k cp9, .slice b9 k cq9]) (by simp [results, Tryz.results25, go_sem, hZ]) rfl ⟨_, _, rfl, ?_, ?_, hap.out, belo⟩
      · unfold OwnE; rw [idX_len]
        exact own_le (ownsRow_setCell_below (ownsRow_setCell_below (ownsRow_setCell_below hox.out (by simp) _) (by simp) _) (by simp) _) (by omega)
      · unfold OwnE; rw [idZ_len]
        exact own_le (ownsRow_setCell_below (ownsRow_setCell_below (ownsRow_setCell_below hoz.out (by simp) _) (by simp) _) (by simp) _) (by omega)
end Go.Proofs.YtnckabohlakbgaaGreat
