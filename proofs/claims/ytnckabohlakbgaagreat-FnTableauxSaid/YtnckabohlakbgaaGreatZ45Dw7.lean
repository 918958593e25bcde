/- The reference's draw for ImageOf. -/
import Derived.Test.YtnckabohlakbgaaGreatZ44Dw6
import Derived.Test.YtnckabohlakbgaaGreatZ06Brk
import Derived.BigRegion
import Derived.BigQuiet
import Derived.Deep.RegionLaw
namespace Go.Proofs.YtnckabohlakbgaaGreat
set_option linter.unusedSimpArgs false
set_option linter.unusedVariables false
set_option linter.unnecessarySimpa false
set_option maxRecDepth 200000
open Go.ChangeShapes Go.WideShapes Go.ChangeAt Go.RowKit

set_option maxHeartbeats 1000000 in
theorem spec_DrawImageOf_any (zs : List Int) (cv : Value) (w : World) (h : RdB w cv zs) (hr : ∀ z ∈ zs, 0 ≤ z ∧ z ≤ 255) :
    Calls Tryz.prog 7 #[cv] w fun e w' => ∃ (d : Tab) (x : E3) (u0 u1 : Value), e = .returned (.tuple #[.agg #[.int .i64 d.n, u0, u1], .agg #[.int .i64 x.a, .int .i64 x.b, .int .i64 x.c]]) ∧ d.xs.length ≤ 4 ∧ d.zs.length ≤ 4 ∧ RdE w' u0 E3.cs 3 d.xs ∧ RdE w' u1 E3.cs 3 d.zs ∧ Below w.heap.size w w' := by
  obtain ⟨b, hbe⟩ : ∃ b, w.heap.size + 1 + 1 = b := ⟨_, rfl⟩
  have hs1 : ((w.alloc (.cells #[.int .i64 0, .slice none 0 0, .slice none 0 0] 29)).alloc (.cells #[.int .i64 0, .int .i64 0, .int .i64 0] 33)).heap.size = b := by simp; omega
  have S := Lib.hid ((((Sb.nil w).push [.int .i64 0, .slice none 0 0, .slice none 0 0] 29 rfl).push [.int .i64 0, .int .i64 0, .int .i64 0] 33 (g := w.heap.size + 1) (by simp)).alloc (.cells #[cv, .int .i64 0, .int .u64 0] 57))
  have C := Lib.hid (cur_new (Rd.below h (show Below w.heap.size w ((w.alloc (.cells #[.int .i64 0, .slice none 0 0, .slice none 0 0] 29)).alloc (.cells #[.int .i64 0, .int .i64 0, .int .i64 0] 33)) from belo) rfl))
  rw [hs1] at C
  obtain ⟨Ac, cc, rfl, _⟩ := byte_at h hr
  have CP := Lib.hid (fun W (hc : Cur W b zs (.slice Ac zs.length cc) 0) => cur_pick_any b 0 3 zs _ W hc (by omega) (by omega) hr)
  have CT := Lib.hid (fun W n (h1 : 1 ≤ n) (h4 : n ≤ 4) (hc : Cur W b zs (.slice Ac zs.length cc) 2) => cur_tableau_any b 2 n zs _ W hc h1 h4 (by omega) hr)
  have CX := Lib.hid (fun W n (h1 : 1 ≤ n) (h4 : n ≤ 4) (hc : Cur W b zs (.slice Ac zs.length cc) 132) => cur_anyPauli_any b 132 n zs _ W hc h1 h4 (by omega) hr)
  clear h hr hs1
  have KS : ∀ {W W' : World} {us vs : List Value}, Sb w.heap.size w W [(w.heap.size + 1, us), (w.heap.size, vs)] → W.grownBy W' (some b) → Sb w.heap.size w W' [(w.heap.size + 1, us), (w.heap.size, vs)] := fun hS hg => hS.kept hg (fun k hk => by injection hk with hk; exact ⟨by omega, fun p hp => by simp at hp; rcases hp with rfl | rfl <;> (dsimp only; omega)⟩)
  go_enter Tryz.func7, Tryz.ntmps7
  go_wp2_with fail
  generalize (((w.alloc (.cells #[.int .i64 0, .slice none 0 0, .slice none 0 0] 29)).alloc (.cells #[.int .i64 0, .int .i64 0, .int .i64 0] 33)).alloc (.cells #[.slice Ac zs.length cc, .int .i64 0, .int .u64 0] 57)) = w1 at *
  refine (CP.out _ C.out).mono ?_; rintro e w3 ⟨y, rfl, hy, _, hc, hg⟩
  replace S := Lib.hid (KS S.out hg)
  replace C := Lib.hid hc
  have hy4 := hy (by omega)
  obtain ⟨n, hn⟩ : ∃ n, n = 1 + y := ⟨_, rfl⟩
  have e1 : (1 : Int) + (y : Int) = (n : Int) := by omega
  have n1 : 1 ≤ n := by omega
  have n4 : n ≤ 4 := by omega
  have e2 : IntKind.i64.wrap (n : Int) = (n : Int) := IntWalk.i64_in _ (by omega)
  have hb3 : b < w3.heap.size := C.out.lt
  clear hc hg CP hy hn
  go_wp2_with fail
  refine (CT.out _ n n1 n4 C.out).mono ?_; rintro e w4 ⟨⟨dn, xs, zs'⟩, u0, u1, rfl, hlx, hlz, hr0, hr1, hc, hg⟩
  dsimp only at hlx hlz hr0 hr1 ⊢
  obtain ⟨a0, c0, rfl, _⟩ := hr0.1.form
  obtain ⟨a1, c1, rfl, _⟩ := hr1.1.form
  replace S := Lib.hid (KS S.out hg)
  replace C := Lib.hid hc
  obtain ⟨g6, hg6⟩ : ∃ g, w4.heap.size = g := ⟨_, rfl⟩
  have hb4 : b < g6 := by have := C.out.lt; omega
  have hbA := (show Below w4.heap.size w4 (w4.alloc (.cells #[.int .i64 dn, .slice a0 xs.length c0, .slice a1 zs'.length c1] 29)) from belo)
  have B6 := Lib.hid (Bw.new w4 [.int .i64 dn, .slice a0 xs.length c0, .slice a1 zs'.length c1] 29 hg6)
  have R0 := Lib.hid (hr0.call hbA)
  have R1 := Lib.hid (hr1.call hbA)
  replace S := Lib.hid (S.out.call hbA)
  replace C := Lib.hid (C.out.call hbA)
  clear hc hg CT hr0 hr1 hbA e1 e2
  go_wp2_with fail
  clear hg6
  generalize (w4.alloc (.cells #[.int .i64 dn, .slice a0 xs.length c0, .slice a1 zs'.length c1] 29)) = w5 at *
  replace S := Lib.hid S.out.drew
  replace B6 := Lib.hid B6.out.drew
  have hbD := (show Below w5.heap.size w5 w5.drew from belo)
  replace C := Lib.hid (C.out.call hbD)
  replace R0 := Lib.hid (R0.out.call hbD)
  replace R1 := Lib.hid (R1.out.call hbD)
  clear hbD
  obtain ⟨⟨t0, t1, t2⟩, -⟩ := B6.out.c3
  refine AnyB.begin (S := (fun w' => w'.cell? ⟨g6, 0, none⟩ = some (.int .i64 dn) ∧ w'.cell? ⟨g6, 1, none⟩ = some (.slice a0 xs.length c0) ∧ w'.cell? ⟨g6, 2, none⟩ = some (.slice a1 zs'.length c1))) [4, 5] (by kernel_rfl) ?_ (fun hHeld0 => ?_)
  · ((try dsimp only); (exact ⟨t0, t1, t2⟩))
  refine AnyB.tk (i := 0) (h := ?_)
  refine AnyB.tq (i := 1) (h := ?_)
  refine AnyB.tq (i := 2) (h := ?_)
  refine AnyB.each (rs := [3]) (by kernel_rfl) (by simp) ?_
  refine EachB.cons rfl (fun K hK hB => ?_) ?_
  · skip
    (go_simp; go_at_call 31; refine (CX.out _ n n1 n4 C.out).mono ?_; rintro e xA ⟨p, x, z, rfl, hc, hg⟩; replace S := Lib.hid (KS S.out hg); replace B6 := Lib.hid (B6.out.kept hg (fun e => by injection e with e; omega)); replace R0 := Lib.hid (R0.out.kept hg (fun k hk => by injection hk with hk; omega)); replace R1 := Lib.hid (R1.out.kept hg (fun k hk => by injection hk with hk; omega)); clear hc hg t0 t1 t2; obtain ⟨⟨t0, t1, t2⟩, -⟩ := B6.out.c3; dsimp only)
    refine hK.out _ _ ?_ (fun hHeld1 => ?_)
    · ((try dsimp only); (exact ⟨t0, t1, t2⟩))
    clear hB hK K hHeld0
    refine AnyB.each (rs := [4]) (by kernel_rfl) (by simp) ?_
    refine EachB.cons rfl (fun K hK hB => ?_) ?_
    · skip
      (obtain ⟨⟨y0, y1, y2⟩, q0, q1, q2⟩ := (S.out.at 1 rfl).c3; go_simp; clear y0 y1 y2 q0 q1 q2 t0 t1 t2; have S8 := Lib.hid (((S.out.set1 0 (.int .i64 dn)).set1 1 (.slice a0 xs.length c0)).set1 2 (.slice a1 zs'.length c1)); replace R0 := Lib.hid ((((R0.out).set (k := ⟨w.heap.size, 0, none⟩) (by dsimp only; omega) rfl (x := .int .i64 dn)).set (k := ⟨w.heap.size, 1, none⟩) (by dsimp only; omega) rfl (x := .slice a0 xs.length c0)).set (k := ⟨w.heap.size, 2, none⟩) (by dsimp only; omega) rfl (x := .slice a1 zs'.length c1)); replace R1 := Lib.hid ((((R1.out).set (k := ⟨w.heap.size, 0, none⟩) (by dsimp only; omega) rfl (x := .int .i64 dn)).set (k := ⟨w.heap.size, 1, none⟩) (by dsimp only; omega) rfl (x := .slice a0 xs.length c0)).set (k := ⟨w.heap.size, 2, none⟩) (by dsimp only; omega) rfl (x := .slice a1 zs'.length c1)); clear S B6; generalize (((xA.setCell ⟨w.heap.size, 0, none⟩ (.int .i64 dn)).setCell ⟨w.heap.size, 1, none⟩ (.slice a0 xs.length c0)).setCell ⟨w.heap.size, 2, none⟩ (.slice a1 zs'.length c1)) = xB at *)
      refine hB.out _ _ rfl ?_
      clear hB hK K
      refine AnyB.each (rs := [5]) (by kernel_rfl) (by simp) ?_
      refine EachB.cons rfl (fun K hK hB => ?_) ?_
      · skip
        (obtain ⟨⟨y0, y1, y2⟩, q0, q1, q2⟩ := S8.out.head.c3; go_simp; clear y0 y1 y2 q0 q1 q2; have S9 := Lib.hid (((S8.out.set0 0 (.int .i64 p)).set0 1 (.int .i64 x)).set0 2 (.int .i64 z)); replace R0 := Lib.hid ((((R0.out).set (k := ⟨w.heap.size + 1, 0, none⟩) (by dsimp only; omega) rfl (x := .int .i64 p)).set (k := ⟨w.heap.size + 1, 1, none⟩) (by dsimp only; omega) rfl (x := .int .i64 x)).set (k := ⟨w.heap.size + 1, 2, none⟩) (by dsimp only; omega) rfl (x := .int .i64 z)); replace R1 := Lib.hid ((((R1.out).set (k := ⟨w.heap.size + 1, 0, none⟩) (by dsimp only; omega) rfl (x := .int .i64 p)).set (k := ⟨w.heap.size + 1, 1, none⟩) (by dsimp only; omega) rfl (x := .int .i64 x)).set (k := ⟨w.heap.size + 1, 2, none⟩) (by dsimp only; omega) rfl (x := .int .i64 z)); clear S8; generalize (((xB.setCell ⟨w.heap.size + 1, 0, none⟩ (.int .i64 p)).setCell ⟨w.heap.size + 1, 1, none⟩ (.int .i64 x)).setCell ⟨w.heap.size + 1, 2, none⟩ (.int .i64 z)) = xC at *)
        refine hB.out _ _ rfl ?_
        clear hB hK K
        refine AnyB.none (by kernel_rfl) ?_ _
        obtain ⟨⟨o0, o1, o2⟩, -⟩ := S9.out.head.c3
        obtain ⟨⟨p0, p1, p2⟩, -⟩ := (S9.out.at 1 rfl).c3
        go_wp2_with fail
        exact bodyPost_ret (v := .tuple #[.agg #[.int .i64 dn, .slice a0 xs.length c0, .slice a1 zs'.length c1], .agg #[.int .i64 p, .int .i64 x, .int .i64 z]]) (by simp [results, Tryz.results7, go_sem, o0, o1, o2, p0, p1, p2]) rfl ⟨⟨dn, xs, zs'⟩, ⟨p, x, z⟩, _, _, rfl, hlx, hlz, R0.out.1, R1.out.1, S9.out.bel⟩
      exact EachB.nil
    exact EachB.nil
  exact EachB.nil
end Go.Proofs.YtnckabohlakbgaaGreat
