/- The reference's draws of circuits. -/
import Derived.Test.YtnckabohlakbgaaGreatZ37Dw1
import Derived.Test.YtnckabohlakbgaaGreatZ14M
import Derived.Test.YtnckabohlakbgaaGreatZ06Brk
import Derived.BigRegion
import Derived.BigQuiet
import Derived.Deep.RegionLaw
namespace Go.Proofs.YtnckabohlakbgaaGreat
set_option linter.unusedSimpArgs false
set_option linter.unusedVariables false
set_option linter.unnecessarySimpa false
set_option maxRecDepth 200000
open Go.ChangeShapes Go.WideShapes Go.ChangeAt Go.RowKit

theorem rds_bw {w : World} {g sz m : Nat} {us : List Value} (h : Bw w g us) (hl : us.length = m * sz) : Reads w w.heap.size sz (some ⟨g, 0, none⟩) m us := by
  refine ⟨hl, fun _ => ⟨_, rfl, h.lt, fun j u hu => ?_⟩⟩
  have hadd : (⟨g, 0, none⟩ : Addr).add j = ⟨g, j, none⟩ := by unfold Addr.add; split <;> simp_all
  rw [hadd]
  exact h.cs j u hu
/-- What a draw of a circuit leaves. -/
def DrawC (b M : Nat) (zs : List Int) (cv : Value) (w : World) (n : Int) (most : Nat) (Ok : E3 → Prop) (e : Ending) (w' : World) : Prop :=
  ∃ (gs : List E3) (u : Value), e = .returned (.agg #[.int .i64 n, u]) ∧ gs.length ≤ most ∧ (∀ g ∈ gs, Ok g) ∧ OwnE w' w.heap.size 66 u E3.cs 3 gs ∧ Cur w' b zs cv M ∧ w.grownBy w' (some b)
set_option maxHeartbeats 1000000 in
theorem cur_built_any (b N n : Nat) (v : Value) (L : List Int) (zs : List Int) (cv : Value) (w : World) (h : Cur w b zs cv N) (hL : RdI w v L) (hoff : ∀ g, v.ownBlock = some g → g ≠ b) (hne : 1 ≤ L.length) (hle : L.length ≤ 100) (hk : ∀ x ∈ L, 1 ≤ x ∧ x ≤ 12) (hn1 : 1 ≤ n) (hn : n ≤ 4) (hN : N + 100 ≤ 1000) (hr : ∀ z ∈ zs, 0 ≤ z ∧ z ≤ 255) :
    Calls Tryz.prog 61 #[.pointer (some ⟨b, 0, none⟩), .int .i64 (n : Int), .int .i64 8, v] w (DrawC b (N + 100) zs cv w (n : Int) 8 (fun g => GateOk (n : Int) g ∧ (g.a ∈ L ∨ g.a = 1))) := by
  obtain ⟨i0, hi, hz0, hz1, hz2⟩ := info_parts info_Gate
  have HR := Lib.hid hr
  have HO := Lib.hid hoff
  have HL := Lib.hid hL
  have CG := Lib.hid (fun W M (hc : Cur W b zs cv M) (hv : RdI W v L) (hM : M + 6 ≤ 1000) => cur_gate_any b M n v L zs cv W hc hv hoff hne hle hk hn1 hn hM hr)
  have X := Lib.hid (((Dw.start h).push [.int .i64 0, .slice none 0 0] 25 (g := w.heap.size) rfl).push [.int .i64 (n : Int), .slice none 0 0] 25 (g := w.heap.size + 1) (by simp))
  obtain ⟨A0, c0, rfl, _⟩ := hL.form
  clear h hL hr hoff hk
  go_enter Tryz.func61, Tryz.ntmps61
  go_wp2_with fail
  generalize ((w.alloc (.cells #[.int .i64 0, .slice none 0 0] 25)).alloc (.cells #[.int .i64 (n : Int), .slice none 0 0] 25)) = w1 at *
  refine (cur_pick_any b N 9 zs cv _ X.out.cur (by omega) (by omega) HR.out).mono ?_; rintro e w2 ⟨x, rfl, hx, _, hc, hg⟩
  replace X := Lib.hid (X.out.step hc hg)
  have hx9 := hx (by omega)
  clear hc hg hx
  go_wp2_with fail
  go_loopw [10] (fun s10 wr => ∃ (k M : Nat) (gs : List E3) (vG : Value), s10 = .int .i64 (k : Int) ∧ gs.length + k ≤ 8 ∧ M + 6 * k ≤ N + 50 ∧ Hid (Dw b M zs cv w wr [(w.heap.size + 1, [.int .i64 (n : Int), vG]), (w.heap.size, [.int .i64 0, .slice none 0 0])]) ∧ Hid (OwnE wr (w.heap.size + 2) 66 vG E3.cs 3 gs) ∧ Hid (∀ g ∈ gs, GateOk (n : Int) g ∧ (g.a ∈ L ∨ g.a = 1))) (fun s10 _ => (intOf s10).toNat)
  case atStart => exact ⟨x, N + 2, [], _, rfl, by simp; omega, by omega, X, (show OwnE _ _ _ _ _ _ _ from OwnE.nil _ _ _), (show ∀ g ∈ _, _ from fun g hg => by simp at hg)⟩
  case round =>
    clear X
    obtain ⟨k, M, gs, vG, rfl, hl8, hM, X, O, HG⟩ := hrel
    obtain ⟨aG, cG, rfl⟩ := O.out.forms
    obtain ⟨⟨t0, t1⟩, tf0, tf1⟩ := X.out.head.c2
    rcases Nat.eq_zero_or_pos k with rfl | hk
    · have X9 := Lib.hid ((X.out.set1 0 (.int .i64 (n : Int))).set1 1 (.slice aG gs.length cG))
      have O9 := Lib.hid (OwnE.set (OwnE.set O.out (a := ⟨w.heap.size, 0, none⟩) (by dsimp only; omega) (.int .i64 (n : Int))) (a := ⟨w.heap.size, 1, none⟩) (by dsimp only; omega) (.slice aG gs.length cG))
      obtain ⟨⟨o0, o1⟩, p0, p1⟩ := (X.out.at 1 rfl).c2
      go_wp2_with fail
      clear t0 t1 tf0 tf1 o0 o1 p0 p1
      obtain ⟨⟨o0, o1⟩, -⟩ := (X9.out.at 1 rfl).c2
      exact bodyPost_ret (v := .agg #[.int .i64 (n : Int), .slice aG gs.length cG]) (by simp [results, Tryz.results61, go_sem, o0, o1]) rfl ⟨gs, _, rfl, by omega, HG.out, OwnE.le O9.out (by omega), X9.out.cur.le (by omega), X9.out.gr⟩
    · have i1 : (0 : Int) < (k : Int) := by omega
      replace X := Lib.hid X.out.drew
      replace O := Lib.hid (OwnE.below O.out (show Below wr.heap.size wr wr.drew from belo) rfl)
      have h1R : ∀ ga gb gc : Int, ∀ u ∈ [Value.int .i64 ga, .int .i64 gb, .int .i64 gc], u.oneCell' = true := fun ga gb gc u hu => by simp at hu; rcases hu with rfl | rfl | rfl <;> rfl
      clear t0 t1 tf0 tf1
      obtain ⟨⟨t0, t1⟩, tf0, tf1⟩ := X.out.head.c2
      go_wp2_with fail
      refine AnyB.begin (S := (fun w' => w'.cell? ⟨w.heap.size + 1, 1, none⟩ = some (.slice aG gs.length cG))) [9] (by kernel_rfl) ?_ (fun hHeld0 => ?_)
      · ((try dsimp only); (exact t1))
      refine AnyB.tq (i := 0) (h := ?_)
      refine AnyB.tk (i := 1) (h := ?_)
      refine AnyB.tq (i := 2) (h := ?_)
      refine AnyB.tq (i := 3) (h := ?_)
      refine AnyB.tq (i := 4) (h := ?_)
      refine AnyB.each (rs := [5]) (by kernel_rfl) (by simp) ?_
      refine EachB.cons rfl (fun K hK hB => ?_) ?_
      · skip
        (go_simp; go_at_call 95; refine (CG.out _ _ X.out.cur (num_grown HL.out X.out.gr HO.out) (by omega)).mono ?_; rintro e xA ⟨⟨ga, gb, gc⟩, rfl, hgo, hga, hc, hg⟩; replace O := Lib.hid (own_step O.out hg (by have := X.out.lb; omega)); replace X := Lib.hid (X.out.step hc hg); have HGO := Lib.hid (And.intro hgo hga); clear hgo hga hc hg t0 t1 tf0 tf1; obtain ⟨⟨t0, t1⟩, tf0, tf1⟩ := X.out.head.c2; dsimp only)
        refine hK.out _ _ ?_ (fun hHeld1 => ?_)
        · ((try dsimp only); (exact t1))
        clear hB hK K hHeld0
        refine AnyB.each (rs := [6]) (by kernel_rfl) (by simp) ?_
        refine EachB.cons rfl (fun K hK hB => ?_) ?_
        · skip
          (go_simp; obtain ⟨gR, hgR⟩ : ∃ g, xA.heap.size = g := ⟨_, rfl⟩; have hbC := (show Below xA.heap.size xA (xA.alloc (.cells #[.int .i64 ga, .int .i64 gb, .int .i64 gc] 66)) from belo); replace X := Lib.hid (X.out.call hbC); replace O := Lib.hid (OwnE.below O.out hbC rfl); have RL := Lib.hid (Bw.new xA [.int .i64 ga, .int .i64 gb, .int .i64 gc] 66 hgR); rw [hgR]; generalize xA.alloc (.cells #[.int .i64 ga, .int .i64 gb, .int .i64 gc] 66) = xD at *; clear hgR hbC t0 t1 tf0 tf1; obtain ⟨⟨t0, t1⟩, tf0, tf1⟩ := X.out.head.c2)
          refine hK.out _ _ ?_ (fun hHeld2 => ?_)
          · ((try dsimp only); (exact t1))
          clear hB hK K hHeld1
          refine AnyB.each (rs := [7]) (by kernel_rfl) (by simp) ?_
          refine EachB.cons rfl (fun K hK hB => ?_) ?_
          · skip
            (have hw1 := X.out.head.lt; refine step_append_any _ (by rfl) (.tmp 22) (.tmp 27) 23 (by rfl) (w.heap.size + 2) 66 i0 (.agg #[.int .i64 0, .int .i64 0, .int .i64 0]) 3 24 Tryz.underlying23 hi hz0 hz1 hz2 rfl (by omega) (.slice aG gs.length cG) gs.length (gs.flatMap E3.cs) (by rfl) O.out _ _ 1 1 [.int .i64 ga, .int .i64 gb, .int .i64 gc] (by rfl) (rds_bw RL.out rfl) (h1R ga gb gc) (by unfold maxLen; omega) (by omega) (by omega) ?_; intro v8 w8 hown8 hg8 hat8; obtain ⟨a8, c8, rfl⟩ := own_form hown8; replace X := Lib.hid (X.out.kept hg8 (fun b9 hb9 => ⟨by have := (O.out.lt b9 hb9).1; omega, fun p hp => by have := (O.out.lt b9 hb9).1; simp at hp; rcases hp with rfl | rfl <;> (dsimp only; omega)⟩)); have O8 := Lib.hid (show OwnE w8 (w.heap.size + 2) 66 (.slice a8 (gs.length + 1) c8) E3.cs 3 (gs ++ [⟨ga, gb, gc⟩]) from (by unfold OwnE; rw [List.length_append, List.flatMap_append]; exact hown8)); clear hown8 hg8 hat8 O RL hw1 t0 t1 tf0 tf1; obtain ⟨⟨t0, t1⟩, tf0, tf1⟩ := X.out.head.c2)
            refine hK.out _ _ ?_ (fun hHeld3 => ?_)
            · ((try dsimp only); (exact t1))
            clear hB hK K hHeld2
            refine AnyB.tq (i := 8) (h := ?_)
            refine AnyB.each (rs := [9]) (by kernel_rfl) (by simp) ?_
            refine EachB.cons rfl (fun K hK hB => ?_) ?_
            · skip
              go_simp
              refine hB.out _ _ rfl ?_
              clear hB hK K
              refine AnyB.none (by kernel_rfl) ?_ _
              have X9 := Lib.hid (X.out.set0 1 (.slice a8 (gs.length + 1) c8))
              have O9 := Lib.hid (OwnE.set O8.out (a := ⟨w.heap.size + 1, 1, none⟩) (by dsimp only; omega) (.slice a8 (gs.length + 1) c8))
              go_wp2_with fail
              go_roundw
              case rel => exact ⟨k - 1, M + 6, gs ++ [⟨ga, gb, gc⟩], _, by go_num, by simp; omega, by omega, X9, O9, (show ∀ g ∈ _, _ from fun g hg => by
                rcases List.mem_append.1 hg with hg | hg
                · exact HG.out g hg
                · simp only [List.mem_singleton] at hg; subst hg; exact HGO.out)⟩
              case measure => simp [intOf]; omega
            exact EachB.nil
          exact EachB.nil
        exact EachB.nil
      exact EachB.nil
end Go.Proofs.YtnckabohlakbgaaGreat
namespace Go.Proofs.YtnckabohlakbgaaGreat
set_option linter.unusedSimpArgs false
set_option linter.unusedVariables false
set_option linter.unnecessarySimpa false
set_option maxRecDepth 200000
open Go.ChangeShapes Go.WideShapes Go.ChangeAt Go.RowKit

def kindsC : List Int := [1, 2, 3, 4, 5, 6, 9, 9, 10, 11, 1]
def kindsA : List Int := [1, 2, 3, 4, 5, 6, 7, 8, 9, 9, 10, 11, 12, 7, 1]
set_option maxHeartbeats 1000000 in
theorem cur_clifford_any (b N n : Nat) (zs : List Int) (cv : Value) (w : World) (h : Cur w b zs cv N) (hn1 : 1 ≤ n) (hn : n ≤ 4) (hN : N + 100 ≤ 1000) (hr : ∀ z ∈ zs, 0 ≤ z ∧ z ≤ 255) :
    Calls Tryz.prog 22 #[.pointer (some ⟨b, 0, none⟩), .int .i64 (n : Int)] w (DrawC b (N + 100) zs cv w (n : Int) 8 (fun g => GateOk (n : Int) g ∧ (g.a ∈ kindsC ∨ g.a = 1))) := by
  have CB := Lib.hid (fun W v (hc : Cur W b zs cv N) (hv : RdI W v kindsC) (ho : ∀ g, v.ownBlock = some g → g ≠ b) => cur_built_any b N n v kindsC zs cv W hc hv ho (by decide) (by decide) (by decide) hn1 hn hN hr)
  have X := Lib.hid ((Dw.start h).push [.int .i64 0, .slice none 0 0] 25 (g := w.heap.size) rfl)
  clear h hr
  have hb := X.out.lb
  go_enter Tryz.func22, Tryz.ntmps22
  go_wp2_with fail
  have L1 := Lib.hid (show RdI ((w.alloc (.cells #[.int .i64 0, .slice none 0 0] 25)).alloc (.cells #[.int .i64 1, .int .i64 2, .int .i64 3, .int .i64 4, .int .i64 5, .int .i64 6, .int .i64 9, .int .i64 9, .int .i64 10, .int .i64 11, .int .i64 1] 3)) (.slice (some ⟨(w.alloc (.cells #[.int .i64 0, .slice none 0 0] 25)).heap.size, 0, none⟩) 11 11) kindsC from lit_num _ kindsC (by decide))
  replace X := Lib.hid (X.out.call (show Below _ _ ((w.alloc (.cells #[.int .i64 0, .slice none 0 0] 25)).alloc (.cells #[.int .i64 1, .int .i64 2, .int .i64 3, .int .i64 4, .int .i64 5, .int .i64 6, .int .i64 9, .int .i64 9, .int .i64 10, .int .i64 11, .int .i64 1] 3)) from belo))
  have hs1 : (w.alloc (.cells #[.int .i64 0, .slice none 0 0] 25)).heap.size = w.heap.size + 1 := by simp
  rw [hs1] at L1
  have HO := Lib.hid (show ∀ g, (Value.slice (some ⟨w.heap.size + 1, 0, none⟩) 11 11).ownBlock = some g → g ≠ b from fun g e => by
    have e3 : w.heap.size + 1 = g := by injection e
    omega)
  clear hs1
  generalize ((w.alloc (.cells #[.int .i64 0, .slice none 0 0] 25)).alloc (.cells #[.int .i64 1, .int .i64 2, .int .i64 3, .int .i64 4, .int .i64 5, .int .i64 6, .int .i64 9, .int .i64 9, .int .i64 10, .int .i64 11, .int .i64 1] 3)) = w1 at *
  have hl1 := X.out.head.lt
  refine (CB.out _ _ X.out.cur L1.out HO.out).mono ?_; rintro e w2 ⟨gs, u, rfl, hl, hok, ho, hc, hg⟩
  obtain ⟨aG, cG, rfl⟩ := ho.forms
  have HG := Lib.hid hok
  replace X := Lib.hid (X.out.step hc hg)
  have O := Lib.hid (OwnE.le ho (show w.heap.size + 1 ≤ w1.heap.size by omega))
  clear hok ho hc hg L1 HO CB
  obtain ⟨⟨o0, o1⟩, p0, p1⟩ := X.out.head.c2
  have X9 := Lib.hid ((X.out.set0 0 (.int .i64 (n : Int))).set0 1 (.slice aG gs.length cG))
  have O9 := Lib.hid (OwnE.set (OwnE.set O.out (a := ⟨w.heap.size, 0, none⟩) (by dsimp only; omega) (.int .i64 (n : Int))) (a := ⟨w.heap.size, 1, none⟩) (by dsimp only; omega) (.slice aG gs.length cG))
  go_wp2_with fail
  clear o0 o1 p0 p1
  obtain ⟨⟨o0, o1⟩, -⟩ := X9.out.head.c2
  exact bodyPost_ret (v := .agg #[.int .i64 (n : Int), .slice aG gs.length cG]) (by simp [results, Tryz.results22, go_sem, o0, o1]) rfl ⟨gs, _, rfl, hl, HG.out, OwnE.le O9.out (by omega), X9.out.cur, X9.out.gr⟩
/-- What a draw of any circuit leaves. -/
def DrawA (b M : Nat) (zs : List Int) (cv : Value) (w : World) (most : Nat) (e : Ending) (w' : World) : Prop :=
  ∃ (n : Int) (gs : List E3) (u : Value), e = .returned (.agg #[.int .i64 n, u]) ∧ gs.length ≤ most ∧ OwnE w' w.heap.size 66 u E3.cs 3 gs ∧ Cur w' b zs cv M ∧ w.grownBy w' (some b)
set_option maxHeartbeats 1000000 in
theorem cur_circuit_any (b N : Nat) (zs : List Int) (cv : Value) (w : World) (h : Cur w b zs cv N) (hN : N + 102 ≤ 1000) (hr : ∀ z ∈ zs, 0 ≤ z ∧ z ≤ 255) :
    Calls Tryz.prog 59 #[.pointer (some ⟨b, 0, none⟩)] w (DrawA b (N + 102) zs cv w 8) := by
  have CB := Lib.hid (fun W v n (h1 : 1 ≤ n) (h4 : n ≤ 4) (hc : Cur W b zs cv (N + 2)) (hv : RdI W v kindsA) (ho : ∀ g, v.ownBlock = some g → g ≠ b) => cur_built_any b (N + 2) n v kindsA zs cv W hc hv ho (by decide) (by decide) (by decide) h1 h4 (by omega) hr)
  have CA := Lib.hid (fun W v (hc : Cur W b zs cv N) (hv : RdI W v [1, 2, 2, 3]) (ho : ∀ g, v.ownBlock = some g → g ≠ b) => cur_among_any b N v [1, 2, 2, 3] zs cv W hc hv (by decide) (by decide) ho (by omega) hr)
  have X := Lib.hid ((Dw.start h).push [.int .i64 0, .slice none 0 0] 25 (g := w.heap.size) rfl)
  clear h hr
  have hb := X.out.lb
  go_enter Tryz.func59, Tryz.ntmps59
  go_wp2_with fail
  have L1 := Lib.hid (show RdI ((w.alloc (.cells #[.int .i64 0, .slice none 0 0] 25)).alloc (.cells #[.int .i64 1, .int .i64 2, .int .i64 2, .int .i64 3] 3)) (.slice (some ⟨(w.alloc (.cells #[.int .i64 0, .slice none 0 0] 25)).heap.size, 0, none⟩) 4 4) [1, 2, 2, 3] from lit_num _ [1, 2, 2, 3] (by decide))
  replace X := Lib.hid (X.out.call (show Below _ _ ((w.alloc (.cells #[.int .i64 0, .slice none 0 0] 25)).alloc (.cells #[.int .i64 1, .int .i64 2, .int .i64 2, .int .i64 3] 3)) from belo))
  have hs1 : (w.alloc (.cells #[.int .i64 0, .slice none 0 0] 25)).heap.size = w.heap.size + 1 := by simp
  rw [hs1] at L1
  have HO := Lib.hid (show ∀ g, (Value.slice (some ⟨w.heap.size + 1, 0, none⟩) 4 4).ownBlock = some g → g ≠ b from fun g e => by
    have e3 : w.heap.size + 1 = g := by injection e
    omega)
  clear hs1
  generalize ((w.alloc (.cells #[.int .i64 0, .slice none 0 0] 25)).alloc (.cells #[.int .i64 1, .int .i64 2, .int .i64 2, .int .i64 3] 3)) = w1 at *
  have hl1 := X.out.head.lt
  refine (CA.out _ _ X.out.cur L1.out HO.out).mono ?_; rintro e w2 ⟨x, rfl, hx, hc, hg⟩
  replace X := Lib.hid (X.out.step hc hg)
  obtain ⟨n, rfl, h1, h4⟩ : ∃ n : Nat, x = (n : Int) ∧ 1 ≤ n ∧ n ≤ 4 := ⟨x.toNat, by simp at hx; omega, by simp at hx; omega, by simp at hx; omega⟩
  have hl2 : w.heap.size < w2.heap.size := X.out.head.lt
  clear hc hg L1 HO CA hx hl1
  clear w1
  go_wp2_with fail
  have L1 := Lib.hid (show RdI (w2.alloc (.cells #[.int .i64 1, .int .i64 2, .int .i64 3, .int .i64 4, .int .i64 5, .int .i64 6, .int .i64 7, .int .i64 8, .int .i64 9, .int .i64 9, .int .i64 10, .int .i64 11, .int .i64 12, .int .i64 7, .int .i64 1] 3)) (.slice (some ⟨w2.heap.size, 0, none⟩) 15 15) kindsA from lit_num _ kindsA (by decide))
  replace X := Lib.hid (X.out.call (show Below _ _ (w2.alloc (.cells #[.int .i64 1, .int .i64 2, .int .i64 3, .int .i64 4, .int .i64 5, .int .i64 6, .int .i64 7, .int .i64 8, .int .i64 9, .int .i64 9, .int .i64 10, .int .i64 11, .int .i64 12, .int .i64 7, .int .i64 1] 3)) from belo))
  have HO := Lib.hid (show ∀ g, (Value.slice (some ⟨w2.heap.size, 0, none⟩) 15 15).ownBlock = some g → g ≠ b from fun g e => by
    have e3 : w2.heap.size = g := by injection e
    omega)
  have hs3 : w2.heap.size < (w2.alloc (.cells #[.int .i64 1, .int .i64 2, .int .i64 3, .int .i64 4, .int .i64 5, .int .i64 6, .int .i64 7, .int .i64 8, .int .i64 9, .int .i64 9, .int .i64 10, .int .i64 11, .int .i64 12, .int .i64 7, .int .i64 1] 3)).heap.size := by simp
  generalize (w2.alloc (.cells #[.int .i64 1, .int .i64 2, .int .i64 3, .int .i64 4, .int .i64 5, .int .i64 6, .int .i64 7, .int .i64 8, .int .i64 9, .int .i64 9, .int .i64 10, .int .i64 11, .int .i64 12, .int .i64 7, .int .i64 1] 3)) = w3 at *
  refine (CB.out _ _ n h1 h4 X.out.cur L1.out HO.out).mono ?_; rintro e w4 ⟨gs, u, rfl, hl, _, ho, hc, hg⟩
  obtain ⟨aG, cG, rfl⟩ := ho.forms
  replace X := Lib.hid (X.out.step hc hg)
  have O := Lib.hid (OwnE.le ho (show w.heap.size + 1 ≤ w3.heap.size by omega))
  clear ho hc hg L1 HO CB
  obtain ⟨⟨o0, o1⟩, p0, p1⟩ := X.out.head.c2
  have X9 := Lib.hid ((X.out.set0 0 (.int .i64 (n : Int))).set0 1 (.slice aG gs.length cG))
  have O9 := Lib.hid (OwnE.set (OwnE.set O.out (a := ⟨w.heap.size, 0, none⟩) (by dsimp only; omega) (.int .i64 (n : Int))) (a := ⟨w.heap.size, 1, none⟩) (by dsimp only; omega) (.slice aG gs.length cG))
  go_wp2_with fail
  clear o0 o1 p0 p1
  obtain ⟨⟨o0, o1⟩, -⟩ := X9.out.head.c2
  exact bodyPost_ret (v := .agg #[.int .i64 (n : Int), .slice aG gs.length cG]) (by simp [results, Tryz.results59, go_sem, o0, o1]) rfl ⟨_, gs, _, rfl, hl, OwnE.le O9.out (by omega), X9.out.cur.le (by omega), X9.out.gr⟩
end Go.Proofs.YtnckabohlakbgaaGreat
