/- The reference's draws of any circuit. -/
import Derived.Test.YtnckabohlakbgaaGreatZ38M
import Derived.Test.YtnckabohlakbgaaGreatZ06Brk
import Derived.BigRegion
import Derived.BigQuiet
import Derived.Deep.RegionLaw
namespace Go.Proofs.YtnckabohlakbgaaGreat
set_option linter.unusedSimpArgs false
set_option linter.unusedVariables false
set_option linter.unnecessarySimpa false
set_option maxRecDepth 200000
open Go.ChangeShapes Go.WideShapes Go.ChangeAt Go.RowKit

set_option maxHeartbeats 1000000 in
theorem cur_anyCircuit_any (b N : Nat) (zs : List Int) (cv : Value) (w : World) (h : Cur w b zs cv N) (hN : N + 120 ≤ 1000) (hr : ∀ z ∈ zs, 0 ≤ z ∧ z ≤ 255) :
    Calls Tryz.prog 21 #[.pointer (some ⟨b, 0, none⟩)] w (DrawA b (N + 120) zs cv w 9) := by
  obtain ⟨i0, hi, hz0, hz1, hz2⟩ := info_parts info_Gate
  have CC := Lib.hid (fun W (hc : Cur W b zs cv N) => cur_circuit_any b N zs cv W hc (by omega) hr)
  have CP := Lib.hid (fun W M m (hc : Cur W b zs cv M) (hm : m ≤ 65536) (hM : M + 2 ≤ 1000) => cur_pick_any b M m zs cv W hc hM hm hr)
  have CA := Lib.hid (fun W v (hc : Cur W b zs cv (N + 104)) (hv : RdI W v [0, 1, 5, 6]) (ho : ∀ g, v.ownBlock = some g → g ≠ b) => cur_among_any b (N + 104) v [0, 1, 5, 6] zs cv W hc hv (by decide) (by decide) ho (by omega) hr)
  have X := Lib.hid ((Dw.start h).push [.int .i64 0, .slice none 0 0] 25 (g := w.heap.size) rfl)
  clear h hr
  have hb := X.out.lb
  go_enter Tryz.func21, Tryz.ntmps21
  go_wp2_with fail
  have hs1 : (w.alloc (.cells #[.int .i64 0, .slice none 0 0] 25)).heap.size = w.heap.size + 1 := by simp
  refine (CC.out _ X.out.cur).mono ?_; rintro e w2 ⟨n, gs, u, rfl, hl, ho, hc, hg⟩
  obtain ⟨aG, cG, rfl⟩ := ho.forms
  replace X := Lib.hid (X.out.step hc hg)
  have O := Lib.hid (OwnE.le ho (show w.heap.size + 1 ≤ _ by omega))
  clear ho hc hg CC hs1
  obtain ⟨g3, hg3⟩ : ∃ g, w2.heap.size = g := ⟨_, rfl⟩
  have hG3 : w.heap.size < g3 := by have := X.out.head.lt; omega
  have O3 : (Value.slice aG gs.length cG).ownBlock ≠ some g3 := fun e => by have := (World.ownsRow.lt (show World.ownsRow _ _ _ _ _ _ _ from O.out) g3 e).2; omega
  have hbA := (show Below w2.heap.size w2 (w2.alloc (.cells #[.int .i64 n, .slice aG gs.length cG] 25)) from belo)
  replace X := Lib.hid (X.out.push [.int .i64 n, .slice aG gs.length cG] 25 hg3)
  replace O := Lib.hid (OwnE.below O.out hbA rfl)
  clear hbA
  go_wp2_with fail
  clear hg3
  generalize (w2.alloc (.cells #[.int .i64 n, .slice aG gs.length cG] 25)) = w3 at *
  refine (CP.out _ _ 14 X.out.cur (by omega) (by omega)).mono ?_; rintro e w4 ⟨x4, rfl, _, _, hc, hg⟩
  replace X := Lib.hid (X.out.step hc hg)
  replace O := Lib.hid (own_step O.out hg (by omega))
  clear hc hg
  by_cases h4 : x4 = 0 ∨ x4 = 1
  · rcases h4 with rfl | rfl
    · go_wp2_with fail
      have L1 := Lib.hid (show RdI (w4.alloc (.cells #[.int .i64 0, .int .i64 1, .int .i64 5, .int .i64 6] 3)) (.slice (some ⟨w4.heap.size, 0, none⟩) 4 4) [0, 1, 5, 6] from lit_num _ [0, 1, 5, 6] (by decide))
      have hbA := (show Below w4.heap.size w4 (w4.alloc (.cells #[.int .i64 0, .int .i64 1, .int .i64 5, .int .i64 6] 3)) from belo)
      have hl4 := X.out.head.lt
      have HO := Lib.hid (show ∀ g, (Value.slice (some ⟨w4.heap.size, 0, none⟩) 4 4).ownBlock = some g → g ≠ b from fun g e => by
        have e3 : w4.heap.size = g := by injection e
        omega)
      replace X := Lib.hid (X.out.call hbA)
      replace O := Lib.hid (OwnE.below O.out hbA rfl)
      clear hbA hl4
      generalize (w4.alloc (.cells #[.int .i64 0, .int .i64 1, .int .i64 5, .int .i64 6] 3)) = w5 at *
      refine (CA.out _ _ X.out.cur L1.out HO.out).mono ?_; rintro e w6 ⟨y, rfl, _, hc, hg⟩
      replace X := Lib.hid (X.out.step hc hg)
      replace O := Lib.hid (own_step O.out hg (by omega))
      clear hc hg L1 HO CA CP
      obtain ⟨⟨t0, t1⟩, tf0, tf1⟩ := X.out.head.c2
      have X7 := Lib.hid (X.out.set0 0 (.int .i64 y))
      have O7 := Lib.hid (show OwnE (w6.setCell ⟨g3, 0, none⟩ (.int .i64 y)) (w.heap.size + 1) 66 (.slice aG gs.length cG) E3.cs 3 gs from own_set_ne (show World.ownsRow _ _ _ _ _ _ _ from O.out) (a := ⟨g3, 0, none⟩) O3 (.int .i64 y))
      clear X O
      go_upto_region 7 with fail
      clear t0 t1 tf0 tf1
      generalize (w6.setCell ⟨g3, 0, none⟩ (.int .i64 y)) = w7 at *
      obtain ⟨⟨t0, t1⟩, -⟩ := X7.out.head.c2
      obtain ⟨⟨o0, o1⟩, p0, p1⟩ := (X7.out.at 1 rfl).c2
      have X9 := Lib.hid ((X7.out.set1 0 (.int .i64 y)).set1 1 (.slice aG gs.length cG))
      have O9 := Lib.hid (OwnE.set (OwnE.set O7.out (a := ⟨w.heap.size, 0, none⟩) (by dsimp only; omega) (.int .i64 y)) (a := ⟨w.heap.size, 1, none⟩) (by dsimp only; omega) (.slice aG gs.length cG))
      go_wp2_with fail
      clear t0 t1 o0 o1 p0 p1
      obtain ⟨⟨o0, o1⟩, -⟩ := (X9.out.at 1 rfl).c2
      exact bodyPost_ret (v := .agg #[.int .i64 y, .slice aG gs.length cG]) (by simp [results, Tryz.results21, go_sem, o0, o1]) rfl ⟨y, gs, _, rfl, by omega, OwnE.le O9.out (by omega), X9.out.cur.le (by omega), X9.out.gr⟩
    · replace X := Lib.hid X.out.drew
      replace O := Lib.hid (OwnE.below O.out (show Below w4.heap.size w4 w4.drew from belo) rfl)
      have h1R : ∀ ga gb gc : Int, ∀ u ∈ [Value.int .i64 ga, .int .i64 gb, .int .i64 gc], u.oneCell' = true := fun ga gb gc u hu => by simp at hu; rcases hu with rfl | rfl | rfl <;> rfl
      obtain ⟨⟨t0, t1⟩, tf0, tf1⟩ := X.out.head.c2
      go_wp2_with fail
      refine AnyB.begin (S := (fun w' => w'.cell? ⟨g3, 1, none⟩ = some (.slice aG gs.length cG))) [14] (by kernel_rfl) ?_ (fun hHeld0 => ?_)
      · ((try dsimp only); (exact t1))
      refine AnyB.tq (i := 0) (h := ?_)
      refine AnyB.tk (i := 1) (h := ?_)
      refine AnyB.tq (i := 2) (h := ?_)
      refine AnyB.tq (i := 4) (h := ?_)
      refine AnyB.tq (i := 7) (h := ?_)
      refine AnyB.each (rs := [3]) (by kernel_rfl) (by simp) ?_
      refine EachB.cons rfl (fun K hK hB => ?_) ?_
      · skip
        (go_simp; go_at_call 23; refine (CP.out _ _ 14 X.out.cur (by omega) (by omega)).mono ?_; rintro e xA ⟨ya, rfl, _, _, hc, hg⟩; replace O := Lib.hid (own_step O.out hg (by omega)); replace X := Lib.hid (X.out.step hc hg); clear hc hg t0 t1 tf0 tf1; obtain ⟨⟨t0, t1⟩, tf0, tf1⟩ := X.out.head.c2; dsimp only)
        refine hK.out _ _ ?_ (fun hHeld1 => ?_)
        · ((try dsimp only); (exact t1))
        clear hB hK K hHeld0
        refine AnyB.each (rs := [5]) (by kernel_rfl) (by simp) ?_
        refine EachB.cons rfl (fun K hK hB => ?_) ?_
        · skip
          (go_simp; go_at_call 23; refine (CP.out _ _ 4 X.out.cur (by omega) (by omega)).mono ?_; rintro e xB ⟨yb, rfl, hyb, _, hc, hg⟩; replace O := Lib.hid (own_step O.out hg (by omega)); replace X := Lib.hid (X.out.step hc hg); have hb4 := hyb (by omega); have eb : IntKind.i64.wrap ((yb : Int) - 1) = (yb : Int) - 1 := IntWalk.i64_in _ (by omega); clear hyb hc hg t0 t1 tf0 tf1; obtain ⟨⟨t0, t1⟩, tf0, tf1⟩ := X.out.head.c2; dsimp only)
          refine hK.out _ _ ?_ (fun hHeld2 => ?_)
          · ((try dsimp only); (exact t1))
          clear hB hK K hHeld1
          refine AnyB.tq (i := 6) (h := ?_)
          refine AnyB.each (rs := [8]) (by kernel_rfl) (by simp) ?_
          refine EachB.cons rfl (fun K hK hB => ?_) ?_
          · skip
            (go_simp; go_at_call 23; refine (CP.out _ _ 4 X.out.cur (by omega) (by omega)).mono ?_; rintro e xC ⟨yc, rfl, hyc, _, hc, hg⟩; replace O := Lib.hid (own_step O.out hg (by omega)); replace X := Lib.hid (X.out.step hc hg); have hc4 := hyc (by omega); have ec : IntKind.i64.wrap ((yc : Int) - 1) = (yc : Int) - 1 := IntWalk.i64_in _ (by omega); clear hyc hc hg t0 t1 tf0 tf1; obtain ⟨⟨t0, t1⟩, tf0, tf1⟩ := X.out.head.c2; dsimp only)
            refine hK.out _ _ ?_ (fun hHeld3 => ?_)
            · ((try dsimp only); (exact t1))
            clear hB hK K hHeld2
            refine AnyB.tq (i := 9) (h := ?_)
            refine AnyB.tq (i := 10) (h := ?_)
            refine AnyB.each (rs := [11]) (by kernel_rfl) (by simp) ?_
            refine EachB.cons rfl (fun K hK hB => ?_) ?_
            · skip
              (go_simp; obtain ⟨gR, hgR⟩ : ∃ g, xC.heap.size = g := ⟨_, rfl⟩; have hbC := (show Below xC.heap.size xC (xC.alloc (.cells #[.int .i64 (ya : Int), .int .i64 ((yb : Int) - 1), .int .i64 ((yc : Int) - 1)] 66)) from belo); replace X := Lib.hid (X.out.call hbC); replace O := Lib.hid (OwnE.below O.out hbC rfl); have RL := Lib.hid (Bw.new xC [.int .i64 (ya : Int), .int .i64 ((yb : Int) - 1), .int .i64 ((yc : Int) - 1)] 66 hgR); rw [hgR]; generalize xC.alloc (.cells #[.int .i64 (ya : Int), .int .i64 ((yb : Int) - 1), .int .i64 ((yc : Int) - 1)] 66) = xD at *; clear hgR hbC t0 t1 tf0 tf1; obtain ⟨⟨t0, t1⟩, tf0, tf1⟩ := X.out.head.c2)
              refine hK.out _ _ ?_ (fun hHeld4 => ?_)
              · ((try dsimp only); (exact t1))
              clear hB hK K hHeld3
              refine AnyB.each (rs := [12]) (by kernel_rfl) (by simp) ?_
              refine EachB.cons rfl (fun K hK hB => ?_) ?_
              · skip
                (have hw1 := X.out.head.lt; refine step_append_any _ (by rfl) (.tmp 17) (.tmp 27) 23 (by rfl) (w.heap.size + 1) 66 i0 (.agg #[.int .i64 0, .int .i64 0, .int .i64 0]) 3 24 Tryz.underlying23 hi hz0 hz1 hz2 rfl (by omega) (.slice aG gs.length cG) gs.length (gs.flatMap E3.cs) (by rfl) O.out _ _ 1 1 [.int .i64 (ya : Int), .int .i64 ((yb : Int) - 1), .int .i64 ((yc : Int) - 1)] (by rfl) (rds_bw RL.out rfl) (h1R _ _ _) (by unfold maxLen; omega) (by omega) (by omega) ?_; intro v8 w8 hown8 hg8 hat8; obtain ⟨a8, c8, rfl⟩ := own_form hown8; have O8n : (Value.slice a8 (gs.length + 1) c8).ownBlock ≠ some g3 := (fun e9 => by rcases hat8 with h9 | h9; exact O3 (h9 ▸ e9); rw [h9] at e9; injection e9 with e9; omega); replace X := Lib.hid (X.out.kept hg8 (fun b9 hb9 => ⟨by have := (O.out.lt b9 hb9).1; omega, fun p hp => by simp at hp; rcases hp with rfl | rfl; (dsimp only; exact fun e9 => O3 (by rw [e9]; exact hb9)); (dsimp only; have := (O.out.lt b9 hb9).1; omega)⟩)); have O8 := Lib.hid (show OwnE w8 (w.heap.size + 1) 66 (.slice a8 (gs.length + 1) c8) E3.cs 3 (gs ++ [⟨(ya : Int), (yb : Int) - 1, (yc : Int) - 1⟩]) from (by unfold OwnE; rw [List.length_append, List.flatMap_append]; exact hown8)); clear hown8 hg8 hat8 O RL hw1 t0 t1 tf0 tf1; obtain ⟨⟨t0, t1⟩, tf0, tf1⟩ := X.out.head.c2)
                refine hK.out _ _ ?_ (fun hHeld5 => ?_)
                · ((try dsimp only); (exact t1))
                clear hB hK K hHeld4
                refine AnyB.tq (i := 13) (h := ?_)
                refine AnyB.each (rs := [14]) (by kernel_rfl) (by simp) ?_
                refine EachB.cons rfl (fun K hK hB => ?_) ?_
                · skip
                  go_simp
                  refine hB.out _ _ rfl ?_
                  clear hB hK K
                  refine AnyB.none (by kernel_rfl) ?_ _
                  have X7 := Lib.hid (X.out.set0 1 (.slice a8 (gs.length + 1) c8))
                  have O7 := Lib.hid (show OwnE (w8.setCell ⟨g3, 1, none⟩ (.slice a8 (gs.length + 1) c8)) (w.heap.size + 1) 66 (.slice a8 (gs.length + 1) c8) E3.cs 3 (gs ++ [⟨(ya : Int), (yb : Int) - 1, (yc : Int) - 1⟩]) from own_set_ne (show World.ownsRow _ _ _ _ _ _ _ from O8.out) (a := ⟨g3, 1, none⟩) O8n (.slice a8 (gs.length + 1) c8))
                  clear X O8 t0 t1 tf0 tf1 eb ec
                  generalize (w8.setCell ⟨g3, 1, none⟩ (.slice a8 (gs.length + 1) c8)) = w7 at *
                  obtain ⟨⟨t0, t1⟩, -⟩ := X7.out.head.c2
                  obtain ⟨⟨o0, o1⟩, p0, p1⟩ := (X7.out.at 1 rfl).c2
                  have X9 := Lib.hid ((X7.out.set1 0 (.int .i64 n)).set1 1 (.slice a8 (gs.length + 1) c8))
                  have O9 := Lib.hid (OwnE.set (OwnE.set O7.out (a := ⟨w.heap.size, 0, none⟩) (by dsimp only; omega) (.int .i64 n)) (a := ⟨w.heap.size, 1, none⟩) (by dsimp only; omega) (.slice a8 (gs.length + 1) c8))
                  go_wp2_with fail
                  clear t0 t1 o0 o1 p0 p1
                  obtain ⟨⟨o0, o1⟩, -⟩ := (X9.out.at 1 rfl).c2
                  exact bodyPost_ret (v := .agg #[.int .i64 n, .slice a8 (gs.length + 1) c8]) (by simp [results, Tryz.results21, go_sem, o0, o1]) rfl ⟨n, _, _, rfl, by simp; omega, OwnE.le O9.out (by omega), X9.out.cur.le (by omega), X9.out.gr⟩
                exact EachB.nil
              exact EachB.nil
            exact EachB.nil
          exact EachB.nil
        exact EachB.nil
      exact EachB.nil
  · have i0' : ¬ x4 = 0 := by omega
    have i1' : ¬ x4 = 1 := by omega
    clear h4
    obtain ⟨⟨t0, t1⟩, -⟩ := X.out.head.c2
    obtain ⟨⟨o0, o1⟩, p0, p1⟩ := (X.out.at 1 rfl).c2
    have X9 := Lib.hid ((X.out.set1 0 (.int .i64 n)).set1 1 (.slice aG gs.length cG))
    have O9 := Lib.hid (OwnE.set (OwnE.set O.out (a := ⟨w.heap.size, 0, none⟩) (by dsimp only; omega) (.int .i64 n)) (a := ⟨w.heap.size, 1, none⟩) (by dsimp only; omega) (.slice aG gs.length cG))
    go_wp2_with fail
    clear t0 t1 o0 o1 p0 p1
    obtain ⟨⟨o0, o1⟩, -⟩ := (X9.out.at 1 rfl).c2
    exact bodyPost_ret (v := .agg #[.int .i64 n, .slice aG gs.length cG]) (by simp [results, Tryz.results21, go_sem, o0, o1]) rfl ⟨n, gs, _, rfl, by omega, OwnE.le O9.out (by omega), X9.out.cur.le (by omega), X9.out.gr⟩
end Go.Proofs.YtnckabohlakbgaaGreat
namespace Go.Proofs.YtnckabohlakbgaaGreat
set_option linter.unusedSimpArgs false
set_option linter.unusedVariables false
set_option linter.unnecessarySimpa false
set_option maxRecDepth 200000
open Go.ChangeShapes Go.WideShapes Go.ChangeAt Go.RowKit

set_option maxHeartbeats 1000000 in
theorem spec_DrawTableauOf_any (zs : List Int) (cv : Value) (w : World) (h : RdB w cv zs) (hr : ∀ z ∈ zs, 0 ≤ z ∧ z ≤ 255) :
    Calls Tryz.prog 4 #[cv] w fun e w' => ∃ (d : Circ) (u : Value), e = .returned (.agg #[.int .i64 d.n, u]) ∧ d.gs.length ≤ 9 ∧ OwnE w' w.heap.size 66 u E3.cs 3 d.gs ∧ Below w.heap.size w w' := by
  obtain ⟨b, hbe⟩ : ∃ b, w.heap.size + 1 = b := ⟨_, rfl⟩
  have hs1 : (w.alloc (.cells #[.int .i64 0, .slice none 0 0] 25)).heap.size = b := by simp; omega
  have S := Lib.hid (((Sb.nil w).push [.int .i64 0, .slice none 0 0] 25 rfl).alloc (.cells #[cv, .int .i64 0, .int .u64 0] 57))
  have C := Lib.hid (cur_new (Rd.below h (show Below w.heap.size w (w.alloc (.cells #[.int .i64 0, .slice none 0 0] 25)) from belo) rfl))
  rw [hs1] at C
  obtain ⟨Ac, cc, rfl, _⟩ := byte_at h hr
  have CO := Lib.hid (fun W (hc : Cur W b zs (.slice Ac zs.length cc) 0) => cur_one_any b 0 5 zs _ W hc (by omega) (by omega) hr)
  have CP := Lib.hid (fun W (hc : Cur W b zs (.slice Ac zs.length cc) 2) => cur_pick_any b 2 4 zs _ W hc (by omega) (by omega) hr)
  have CY := Lib.hid (fun W (hc : Cur W b zs (.slice Ac zs.length cc) 2) => cur_anyCircuit_any b 2 zs _ W hc (by omega) hr)
  have CC := Lib.hid (fun W n (h1 : 1 ≤ n) (h4 : n ≤ 4) (hc : Cur W b zs (.slice Ac zs.length cc) 4) => cur_clifford_any b 4 n zs _ W hc h1 h4 (by omega) hr)
  clear h hr hs1
  have KS : ∀ {W W' : World} {us : List Value}, Sb w.heap.size w W [(w.heap.size, us)] → W.grownBy W' (some b) → Sb w.heap.size w W' [(w.heap.size, us)] := fun hS hg => hS.kept hg (fun k hk => by injection hk with hk; exact ⟨by omega, fun p hp => by simp at hp; subst hp; dsimp only; omega⟩)
  go_enter Tryz.func4, Tryz.ntmps4
  go_wp2_with fail
  generalize ((w.alloc (.cells #[.int .i64 0, .slice none 0 0] 25)).alloc (.cells #[.slice Ac zs.length cc, .int .i64 0, .int .u64 0] 57)) = w1 at *
  refine (CO.out _ C.out).mono ?_; rintro e w2 ⟨x, rfl, hc, hg⟩
  replace S := Lib.hid (KS S.out hg)
  replace C := Lib.hid hc
  clear hc hg CO
  cases x
  · go_wp2_with fail
    refine (CP.out _ C.out).mono ?_; rintro e w3 ⟨y, rfl, hy, _, hc, hg⟩
    replace S := Lib.hid (KS S.out hg)
    replace C := Lib.hid hc
    have hy4 := hy (by omega)
    obtain ⟨n, hn⟩ : ∃ n, n = 1 + y := ⟨_, rfl⟩
    have e1 : (1 : Int) + (y : Int) = (n : Int) := by omega
    have n1 : 1 ≤ n := by omega
    have n4 : n ≤ 4 := by omega
    have e2 : IntKind.i64.wrap (n : Int) = (n : Int) := IntWalk.i64_in _ (by omega)
    clear hc hg CP CY hy hn
    go_wp2_with fail
    refine (CC.out _ n n1 n4 C.out).mono ?_; rintro e w4 ⟨gs, u, rfl, hl, _, ho, hc, hg⟩
    obtain ⟨aG, cG, rfl⟩ := ho.forms
    have hlt := S.out.head.lt
    have O := Lib.hid (OwnE.le ho (show w.heap.size + 1 ≤ w3.heap.size by omega))
    replace S := Lib.hid (KS S.out hg)
    clear ho hc hg CC C hlt
    obtain ⟨⟨o0, o1⟩, p0, p1⟩ := S.out.head.c2
    have X9 := Lib.hid ((S.out.set0 0 (.int .i64 (n : Int))).set0 1 (.slice aG gs.length cG))
    have O9 := Lib.hid (OwnE.set (OwnE.set O.out (a := ⟨w.heap.size, 0, none⟩) (by dsimp only; omega) (.int .i64 (n : Int))) (a := ⟨w.heap.size, 1, none⟩) (by dsimp only; omega) (.slice aG gs.length cG))
    go_wp2_with fail
    clear o0 o1 p0 p1
    obtain ⟨⟨o0, o1⟩, -⟩ := X9.out.head.c2
    exact bodyPost_ret (v := .agg #[.int .i64 (n : Int), .slice aG gs.length cG]) (by simp [results, Tryz.results4, go_sem, o0, o1]) rfl ⟨⟨(n : Int), gs⟩, _, rfl, by dsimp only; omega, OwnE.le O9.out (by omega), X9.out.bel⟩
  · go_wp2_with fail
    refine (CY.out _ C.out).mono ?_; rintro e w4 ⟨n, gs, u, rfl, hl, ho, hc, hg⟩
    obtain ⟨aG, cG, rfl⟩ := ho.forms
    have hlt := S.out.head.lt
    have O := Lib.hid (OwnE.le ho (show w.heap.size + 1 ≤ w2.heap.size by omega))
    replace S := Lib.hid (KS S.out hg)
    clear ho hc hg CC C CY CP hlt
    obtain ⟨⟨o0, o1⟩, p0, p1⟩ := S.out.head.c2
    have X9 := Lib.hid ((S.out.set0 0 (.int .i64 n)).set0 1 (.slice aG gs.length cG))
    have O9 := Lib.hid (OwnE.set (OwnE.set O.out (a := ⟨w.heap.size, 0, none⟩) (by dsimp only; omega) (.int .i64 n)) (a := ⟨w.heap.size, 1, none⟩) (by dsimp only; omega) (.slice aG gs.length cG))
    go_wp2_with fail
    clear o0 o1 p0 p1
    obtain ⟨⟨o0, o1⟩, -⟩ := X9.out.head.c2
    exact bodyPost_ret (v := .agg #[.int .i64 n, .slice aG gs.length cG]) (by simp [results, Tryz.results4, go_sem, o0, o1]) rfl ⟨⟨n, gs⟩, _, rfl, hl, OwnE.le O9.out (by omega), X9.out.bel⟩
end Go.Proofs.YtnckabohlakbgaaGreat
