/- The reference's draws of gates and of circuits. -/
import Derived.Test.YtnckabohlakbgaaGreatZ36M
import Derived.Test.YtnckabohlakbgaaGreatZ14M
import Derived.Test.YtnckabohlakbgaaGreatZ08M
import Derived.Test.YtnckabohlakbgaaGreatZ06Brk
import Derived.BigRegion
import Derived.BigQuiet
import Derived.Deep.RegionLaw
namespace Go.Proofs.YtnckabohlakbgaaGreat
set_option linter.unusedSimpArgs false
set_option linter.unusedVariables false
set_option linter.unnecessarySimpa false
set_option maxRecDepth 200000
open Go.ChangeShapes Go.WideShapes Go.ChangeAt Go.RowKit

theorem gate_w {n : Nat} (h1 : 1 ≤ n) (h4 : n ≤ 4) : GateOk (n : Int) ⟨12, 0, 0⟩ := by unfold GateOk; dsimp only; omega
theorem gate_h {n : Nat} (h1 : 1 ≤ n) (h4 : n ≤ 4) : GateOk (n : Int) ⟨1, 0, 0⟩ := by unfold GateOk; dsimp only; omega
theorem gate_1 {n A : Nat} {k : Int} (h1 : 1 ≤ n) (h4 : n ≤ 4) (hk : 1 ≤ k ∧ k ≤ 8) (hA : A < n) : GateOk (n : Int) ⟨k, (A : Int), 0⟩ := by unfold GateOk; dsimp only; omega
theorem turn_ne {n A y : Nat} (h2 : 2 ≤ n) (h4 : n ≤ 4) (hA : A < n) (hy : y < n - 1) : (A + 1 + y) % n < n ∧ (A + 1 + y) % n ≠ A := by
  rcases (show n = 2 ∨ n = 3 ∨ n = 4 by omega) with rfl | rfl | rfl <;> omega
theorem gate_2 {n A y : Nat} {k : Int} (h2 : 2 ≤ n) (h4 : n ≤ 4) (hk : 9 ≤ k ∧ k ≤ 11) (hA : A < n) (hy : y < n - 1) : GateOk (n : Int) ⟨k, (A : Int), (((A + 1 + y) % n : Nat) : Int)⟩ := by
  obtain ⟨h5, h6⟩ := turn_ne h2 h4 hA hy
  unfold GateOk; dsimp only; omega
set_option maxHeartbeats 1000000 in
theorem cur_gate_any (b N n : Nat) (v : Value) (L : List Int) (zs : List Int) (cv : Value) (w : World) (h : Cur w b zs cv N) (hL : RdI w v L) (hoff : ∀ g, v.ownBlock = some g → g ≠ b) (hne : 1 ≤ L.length) (hle : L.length ≤ 100) (hk : ∀ x ∈ L, 1 ≤ x ∧ x ≤ 12) (hn1 : 1 ≤ n) (hn : n ≤ 4) (hN : N + 6 ≤ 1000) (hr : ∀ z ∈ zs, 0 ≤ z ∧ z ≤ 255) :
    Calls Tryz.prog 95 #[.pointer (some ⟨b, 0, none⟩), .int .i64 (n : Int), v] w fun e w' => ∃ g : E3, e = .returned (.agg #[.int .i64 g.a, .int .i64 g.b, .int .i64 g.c]) ∧ GateOk (n : Int) g ∧ (g.a ∈ L ∨ g.a = 1) ∧ Cur w' b zs cv (N + 6) ∧ w.grownBy w' (some b) := by
  have HR := Lib.hid hr
  have HO := Lib.hid hoff
  have HL := Lib.hid hL
  have X := Lib.hid ((Dw.start h).push [.int .i64 0, .int .i64 0, .int .i64 0] 66 (g := w.heap.size) rfl)
  have hb0 : Below w.heap.size w (w.alloc (.cells #[.int .i64 0, .int .i64 0, .int .i64 0] 66)) := belo
  have L0 := Lib.hid (Rd.below hL hb0 rfl)
  obtain ⟨A0, c0, rfl, _⟩ := hL.form
  clear h hL hr hoff hb0
  go_enter Tryz.func95, Tryz.ntmps95
  go_wp2_with fail
  generalize (w.alloc (.cells #[.int .i64 0, .int .i64 0, .int .i64 0] 66)) = w1 at *
  refine (cur_pick_any b N L.length zs cv _ X.out.cur (by omega) (by omega) HR.out).mono ?_; rintro e w2 ⟨x, rfl, hx, _, hc, hg⟩
  replace X := Lib.hid (X.out.step hc hg)
  have L2 := Lib.hid (num_grown L0.out hg HO.out)
  clear hc hg L0
  have hxl := hx hne
  obtain ⟨kb, ko, kc, e9, hkb, _, _, hcell⟩ := rdI_low L2.out hne
  injection e9 with e9 _ e10
  subst e9; subst e10
  have k0 := hcell x (.int .i64 L[x]) (by simp [hxl])
  have hkx := hk L[x] (List.getElem_mem hxl)
  have HM := Lib.hid (List.getElem_mem hxl)
  generalize L[x] = k at *
  have i1 : (x : Int) < (L.length : Int) := by omega
  clear hcell hx
  go_upto_region 2 with fail
  obtain ⟨g7, hg7⟩ : ∃ g, w2.heap.size = g := ⟨_, rfl⟩
  replace X := Lib.hid (X.out.push [.int .i64 k, .int .i64 0, .int .i64 0] 66 hg7)
  rw [hg7]
  clear k0 i1 hg7 L2 hkb
  generalize (w2.alloc (.cells #[.int .i64 k, .int .i64 0, .int .i64 0] 66)) = w3 at *
  obtain ⟨⟨a0, a1, a2⟩, f0, f1, f2⟩ := X.out.head.c3
  obtain ⟨⟨o0, o1, o2⟩, p0, p1, p2⟩ := (X.out.at 1 rfl).c3
  by_cases h12 : k = 12
  · subst h12
    have X9 := Lib.hid (((X.out.set1 0 (.int .i64 12)).set1 1 (.int .i64 0)).set1 2 (.int .i64 0))
    go_wp2_with fail
    clear a0 a1 a2 f0 f1 f2 o0 o1 o2 p0 p1 p2
    obtain ⟨⟨o0, o1, o2⟩, -⟩ := (X9.out.at 1 rfl).c3
    exact bodyPost_ret (v := .agg #[.int .i64 12, .int .i64 0, .int .i64 0]) (by simp [results, Tryz.results95, go_sem, o0, o1, o2]) rfl ⟨⟨12, 0, 0⟩, rfl, gate_w hn1 hn, .inl HM.out, X9.out.cur.le (by omega), X9.out.gr⟩
  · have i12 : ¬ k = 12 := h12
    go_wp2_with fail
    refine (cur_pick_any b (N + 2) n zs cv _ X.out.cur (by omega) (by omega) HR.out).mono ?_; rintro e w4 ⟨A, rfl, hA, _, hc, hg⟩
    have hAn := hA hn1
    replace X := Lib.hid (X.out.step hc hg)
    clear hc hg hA a0 a1 a2 f0 f1 f2 o0 o1 o2 p0 p1 p2
    obtain ⟨⟨a0, a1, a2⟩, f0, f1, f2⟩ := X.out.head.c3
    have X5 := Lib.hid (X.out.set0 1 (.int .i64 (A : Int)))
    by_cases hin : 9 ≤ k ∧ k ≤ 11
    · have HI := Lib.hid (show inB k 9 11 = true from by simp [inB]; omega)
      go_wp2_with fail
      clear a0 a1 a2 f0 f1 f2 X
      generalize (w4.setCell ⟨g7, 1, none⟩ (.int .i64 (A : Int))) = w5 at *
      refine (l1In_is HI.out _).mono ?_; rintro e w6 ⟨rfl, rfl⟩
      by_cases h1 : n = 1
      · subst h1
        obtain ⟨⟨o0, o1, o2⟩, p0, p1, p2⟩ := (X5.out.at 1 rfl).c3
        have X9 := Lib.hid (((X5.out.set1 0 (.int .i64 1)).set1 1 (.int .i64 0)).set1 2 (.int .i64 0))
        go_wp2_with fail
        clear o0 o1 o2 p0 p1 p2
        obtain ⟨⟨o0, o1, o2⟩, -⟩ := (X9.out.at 1 rfl).c3
        exact bodyPost_ret (v := .agg #[.int .i64 1, .int .i64 0, .int .i64 0]) (by simp [results, Tryz.results95, go_sem, o0, o1, o2]) rfl ⟨⟨1, 0, 0⟩, rfl, gate_h hn1 hn, .inr rfl, X9.out.cur.le (by omega), X9.out.gr⟩
      · have i1 : ¬ (n : Int) = 1 := by omega
        obtain ⟨m, hm⟩ : ∃ m, m = n - 1 := ⟨_, rfl⟩
        have e1 : (n : Int) - 1 = (m : Int) := by omega
        have m1 : 1 ≤ m := by omega
        have m3 : m ≤ 3 := by omega
        have HMN := Lib.hid hm
        clear hm
        have e0 : IntKind.i64.wrap (m : Int) = (m : Int) := IntWalk.i64_in _ (by omega)
        have CP := Lib.hid (fun W M (hc : Cur W b zs cv M) (hM : M + 2 ≤ 1000) => cur_pick_any b M m zs cv W hc hM (by omega) HR.out)
        replace X5 := Lib.hid X5.out.drew
        obtain ⟨⟨a0, a1, a2⟩, f0, f1, f2⟩ := X5.out.head.c3
        have e2 : IntKind.i64.wrap ((A : Int) + 1) = (A : Int) + 1 := IntWalk.i64_in _ (by omega)
        have i3 : (0 : Int) ≤ (A : Int) + 1 := by omega
        have i4 : ¬ n = 0 := by omega
        go_wp2_with fail
        refine AnyB.begin (S := (fun w' => w'.cell? ⟨g7, 1, none⟩ = some (.int .i64 (A : Int)))) [11] (by kernel_rfl) ?_ (fun hHeld0 => ?_)
        · ((try dsimp only); (exact a1))
        refine AnyB.tq (i := 0) (h := ?_)
        refine AnyB.tk (i := 1) (h := ?_)
        refine AnyB.tq (i := 2) (h := ?_)
        refine AnyB.tq (i := 3) (h := ?_)
        refine AnyB.tq (i := 4) (h := ?_)
        refine AnyB.tq (i := 5) (h := ?_)
        refine AnyB.tq (i := 8) (h := ?_)
        refine AnyB.each (rs := [6]) (by kernel_rfl) (by simp) ?_
        refine EachB.cons rfl (fun K hK hB => ?_) ?_
        · skip
          (go_simp; go_at_call 23; refine (CP.out _ _ X5.out.cur (by omega)).mono ?_; rintro e xA ⟨y, rfl, hy, _, hc, hg⟩; replace X5 := Lib.hid (X5.out.step hc hg); clear hc hg a0 a1 a2 f0 f1 f2; have hym := hy (by omega); have HY := Lib.hid hym; have e3 : IntKind.i64.wrap ((A : Int) + 1 + (y : Int)) = (A : Int) + 1 + (y : Int) := IntWalk.i64_in _ (by omega); have i5 : (0 : Int) ≤ (A : Int) + 1 + (y : Int) := (by omega); obtain ⟨Bv, hBv⟩ : ∃ B, B = (A + 1 + y) % n := ⟨_, rfl⟩; have e9 : Int.tmod ((A : Int) + 1 + (y : Int)) (n : Int) = (Bv : Int) := (by rw [hBv, show (A : Int) + 1 + (y : Int) = ((A + 1 + y : Nat) : Int) from (by push_cast; rfl)]; rfl); have HB := Lib.hid hBv; clear hBv; obtain ⟨⟨a0, a1, a2⟩, f0, f1, f2⟩ := X5.out.head.c3; dsimp only)
          refine hK.out _ _ ?_ (fun hHeld1 => ?_)
          · ((try dsimp only); (exact a1))
          clear hB hK K hHeld0
          refine AnyB.tq (i := 7) (h := ?_)
          refine AnyB.tq (i := 9) (h := ?_)
          refine AnyB.tq (i := 10) (h := ?_)
          refine AnyB.each (rs := [11]) (by kernel_rfl) (by simp) ?_
          refine EachB.cons rfl (fun K hK hB => ?_) ?_
          · skip
            go_simp
            refine hB.out _ _ rfl ?_
            clear hB hK K
            refine AnyB.none (by kernel_rfl) ?_ _
            have X6 := Lib.hid (X5.out.set0 2 (.int .i64 (Bv : Int)))
            clear X5 a0 a1 a2 f0 f1 f2
            generalize (xA.setCell ⟨g7, 2, none⟩ (.int .i64 (Bv : Int))) = w6 at *
            obtain ⟨⟨a0, a1, a2⟩, -⟩ := X6.out.head.c3
            obtain ⟨⟨o0, o1, o2⟩, p0, p1, p2⟩ := (X6.out.at 1 rfl).c3
            have X9 := Lib.hid (((X6.out.set1 0 (.int .i64 k)).set1 1 (.int .i64 (A : Int))).set1 2 (.int .i64 (Bv : Int)))
            clear e1 e2 e3 e9 i3 i5
            go_wp2_with fail
            clear a0 a1 a2 o0 o1 o2 p0 p1 p2
            obtain ⟨⟨o0, o1, o2⟩, -⟩ := (X9.out.at 1 rfl).c3
            exact bodyPost_ret (v := .agg #[.int .i64 k, .int .i64 (A : Int), .int .i64 (Bv : Int)]) (by simp [results, Tryz.results95, go_sem, o0, o1, o2]) rfl ⟨⟨k, (A : Int), (Bv : Int)⟩, rfl, by rw [HB.out]; exact gate_2 (by omega) hn hin hAn (by have := HY.out; have := HMN.out; omega), .inl HM.out, X9.out.cur.le (by omega), X9.out.gr⟩
          exact EachB.nil
        exact EachB.nil
    · have HI := Lib.hid (show inB k 9 11 = false from by simp [inB]; omega)
      go_wp2_with fail
      clear a0 a1 a2 f0 f1 f2 X
      generalize (w4.setCell ⟨g7, 1, none⟩ (.int .i64 (A : Int))) = w5 at *
      refine (l1In_is HI.out _).mono ?_; rintro e w6 ⟨rfl, rfl⟩
      obtain ⟨⟨a0, a1, a2⟩, -⟩ := X5.out.head.c3
      obtain ⟨⟨o0, o1, o2⟩, p0, p1, p2⟩ := (X5.out.at 1 rfl).c3
      have X9 := Lib.hid (((X5.out.set1 0 (.int .i64 k)).set1 1 (.int .i64 (A : Int))).set1 2 (.int .i64 0))
      go_wp2_with fail
      clear a0 a1 a2 o0 o1 o2 p0 p1 p2
      obtain ⟨⟨o0, o1, o2⟩, -⟩ := (X9.out.at 1 rfl).c3
      exact bodyPost_ret (v := .agg #[.int .i64 k, .int .i64 (A : Int), .int .i64 0]) (by simp [results, Tryz.results95, go_sem, o0, o1, o2]) rfl ⟨⟨k, (A : Int), 0⟩, rfl, gate_1 hn1 hn (by omega) hAn, .inl HM.out, X9.out.cur.le (by omega), X9.out.gr⟩
end Go.Proofs.YtnckabohlakbgaaGreat
