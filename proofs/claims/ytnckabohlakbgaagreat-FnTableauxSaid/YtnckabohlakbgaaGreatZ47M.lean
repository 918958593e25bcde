/- The walk through the law FnTableaux. -/
import Derived.Test.YtnckabohlakbgaaGreatZ36M
import Derived.Test.YtnckabohlakbgaaGreatZ39M
import Derived.Test.YtnckabohlakbgaaGreatZ45Dw7
import Derived.Test.YtnckabohlakbgaaGreatZ46M
import Derived.Test.YtnckabohlakbgaaGreatZ20M
import Derived.BigRegion
import Derived.BigQuiet
namespace Go.Proofs.YtnckabohlakbgaaGreat
set_option linter.unusedSimpArgs false
set_option linter.unusedVariables false
set_option linter.unnecessarySimpa false
set_option maxRecDepth 200000
open Go.ChangeShapes Go.WideShapes Go.ChangeAt Go.RowKit

theorem Sb.push3 {B : Nat} {w0 w : World} {L : List (Nat × List Value)} (h : Sb B w0 w L) (a b c : Int) {g : Nat} (hg : w.heap.size = g) : Sb B w0 (w.alloc (.cells #[.int .i64 a, .int .i64 b, .int .i64 c] 33)) ((g, [.int .i64 a, .int .i64 b, .int .i64 c]) :: L) :=
  h.push [.int .i64 a, .int .i64 b, .int .i64 c] 33 hg
theorem Sb.pushM {B : Nat} {w0 w : World} {L : List (Nat × List Value)} (h : Sb B w0 w L) (a b : Int) (v : Value) {g : Nat} (hg : w.heap.size = g) : Sb B w0 (w.alloc (.cells #[.int .i64 a, .int .i64 b, v] 47)) ((g, [.int .i64 a, .int .i64 b, v]) :: L) :=
  h.push [.int .i64 a, .int .i64 b, v] 47 hg
theorem Sb.pushT {B : Nat} {w0 w : World} {L : List (Nat × List Value)} (h : Sb B w0 w L) (a : Int) (u v : Value) {g : Nat} (hg : w.heap.size = g) : Sb B w0 (w.alloc (.cells #[.int .i64 a, u, v] 29)) ((g, [.int .i64 a, u, v]) :: L) :=
  h.push [.int .i64 a, u, v] 29 hg
theorem Sb.pushC {B : Nat} {w0 w : World} {L : List (Nat × List Value)} (h : Sb B w0 w L) (a : Int) (u : Value) {g : Nat} (hg : w.heap.size = g) : Sb B w0 (w.alloc (.cells #[.int .i64 a, u] 25)) ((g, [.int .i64 a, u]) :: L) :=
  h.push [.int .i64 a, u] 25 hg
/-- Rows of a tableau. -/
def Rt (w : World) (u v : Value) (xs zs : List E3) : Prop := RdE w u E3.cs 3 xs ∧ RdE w v E3.cs 3 zs
theorem Rt.call {w w' : World} {u v : Value} {xs zs : List E3} (h : Rt w u v xs zs) (hb : Below w.heap.size w w') : Rt w' u v xs zs := ⟨RdE.below h.1 hb rfl, RdE.below h.2 hb rfl⟩
set_option maxHeartbeats 4000000 in
theorem walk_FnTableaux (v0 v1 : Value) (w : World) (h0 : IsBytes w v0) (h1 : IsBytes w v1) :
    Calls Tryz.prog 3 #[v0, v1] w fun e w' => e = .returned (.bool true) ∧ Below w.heap.size w w' := by
  obtain ⟨zs, hz, hr⟩ := h0
  obtain ⟨zs1, hz1, hr1⟩ := h1
  obtain ⟨A, c, rfl⟩ : ∃ a c, v0 = .slice a zs.length c := hz.form_any
  obtain ⟨A1, c1, rfl⟩ : ∃ a c, v1 = .slice a zs1.length c := hz1.form_any
  have HZ := Lib.hid hz
  have HR := Lib.hid hr
  have HZ1 := Lib.hid hz1
  have HR1 := Lib.hid hr1
  clear hz hr hz1 hr1
  go_enter Tryz.func3, Tryz.ntmps3
  by_cases hlen : (1048576 : Int) < wrap64 ((zs.length : Int) + (zs1.length : Int))
  · go_wp2_with fail
    go_ret
    exact ⟨rfl, belo⟩
  · have hl1 : zs1.length ≤ 9223372036854775807 := by
      rcases HZ1.out.2 with ⟨_, h9⟩ | ⟨_, _, _, _, _, h5, h6, _⟩ <;> omega
    go_wp2_with fail
    refine (spec_DrawTableauOf_any zs _ _ HZ.out HR.out).mono ?_; rintro e w1 ⟨d, u, rfl, hl9, hou, hb1⟩
    obtain ⟨au, cu, rfl⟩ := hou.forms
    obtain ⟨g5, hg5⟩ : ∃ g, w1.heap.size = g := ⟨_, rfl⟩
    have S1 := Lib.hid (((Sb.nil w).call hb1).pushC d.n (.slice au d.gs.length cu) hg5)
    have RC := Lib.hid (RdE.below (OwnE.rd hou) (show Below w1.heap.size w1 (w1.alloc (.cells #[.int .i64 d.n, .slice au d.gs.length cu] 25)) from belo) rfl)
    have CI := Lib.hid (fun W h => impl_TableauOf_any (.slice au d.gs.length cu) d W h (by omega))
    have CS := Lib.hid (fun W h => spec_TableauOf_any (.slice au d.gs.length cu) d W h (by omega))
    have HCL := Lib.hid (fun (h : clifB d = true) n hn => tab_parts h (n := n) hn)
    have HNO := Lib.hid (fun (h : ¬ clifB d = true) => (show tofG d = none from if_neg h))
    have HTL := Lib.hid (tofG_len d)
    obtain ⟨T, hT⟩ : ∃ T, T = tofG d := ⟨_, rfl⟩
    rw [← hT] at CI CS HNO HTL
    have HT := Lib.hid hT
    clear hb1 hou hT
    obtain ⟨⟨a0, a1⟩, -⟩ := S1.out.head.c2
    go_wp2_with fail
    clear a0 a1
    generalize (w1.alloc (.cells #[.int .i64 d.n, .slice au d.gs.length cu] 25)) = w2 at *
    clear hg5
    refine (CI.out _ RC.out).mono ?_; rintro e w3 ⟨t0, t1, rfl, ho0, ho1, _, hb3⟩
    obtain ⟨b0, e0, rfl⟩ := ho0.forms
    obtain ⟨b1, e1, rfl⟩ := ho1.forms
    obtain ⟨g6, hg6⟩ : ∃ g, w3.heap.size = g := ⟨_, rfl⟩
    have hal := (show Below w3.heap.size w3 (w3.alloc (.cells #[.int .i64 (T.getD Tab.zero).n, .slice b0 (T.getD Tab.zero).xs.length e0, .slice b1 (T.getD Tab.zero).zs.length e1] 29)) from belo)
    have S2 := Lib.hid ((S1.out.call hb3).pushT (T.getD Tab.zero).n (.slice b0 (T.getD Tab.zero).xs.length e0) (.slice b1 (T.getD Tab.zero).zs.length e1) hg6)
    replace RC := Lib.hid (RdE.below (RdE.below RC.out hb3 rfl) hal rfl)
    have RT := Lib.hid (Rt.call (show Rt w3 (.slice b0 (T.getD Tab.zero).xs.length e0) (.slice b1 (T.getD Tab.zero).zs.length e1) (T.getD Tab.zero).xs (T.getD Tab.zero).zs from ⟨OwnE.rd ho0, OwnE.rd ho1⟩) hal)
    clear hb3 ho0 ho1 hal S1 CI
    obtain ⟨⟨a0, a1⟩, -⟩ := (S2.out.at 1 rfl).c2
    go_wp2_with fail
    clear a0 a1
    generalize (w3.alloc (.cells #[.int .i64 (T.getD Tab.zero).n, .slice b0 (T.getD Tab.zero).xs.length e0, .slice b1 (T.getD Tab.zero).zs.length e1] 29)) = w4 at *
    clear hg6
    refine (CS.out _ RC.out).mono ?_; rintro e w5 ⟨t0, t1, rfl, ho0, ho1, _, hb5⟩
    obtain ⟨b2, e2, rfl⟩ := ho0.forms
    obtain ⟨b3, e3, rfl⟩ := ho1.forms
    obtain ⟨g8, hg8⟩ : ∃ g, w5.heap.size = g := ⟨_, rfl⟩
    have hal := (show Below w5.heap.size w5 (w5.alloc (.cells #[.int .i64 (T.getD Tab.zero).n, .slice b2 (T.getD Tab.zero).xs.length e2, .slice b3 (T.getD Tab.zero).zs.length e3] 29)) from belo)
    have S3 := Lib.hid ((S2.out.call hb5).pushT (T.getD Tab.zero).n (.slice b2 (T.getD Tab.zero).xs.length e2) (.slice b3 (T.getD Tab.zero).zs.length e3) hg8)
    replace RC := Lib.hid (RdE.below (RdE.below RC.out hb5 rfl) hal rfl)
    replace RT := Lib.hid (Rt.call (Rt.call RT.out hb5) hal)
    have RW := Lib.hid (Rt.call (show Rt w5 (.slice b2 (T.getD Tab.zero).xs.length e2) (.slice b3 (T.getD Tab.zero).zs.length e3) (T.getD Tab.zero).xs (T.getD Tab.zero).zs from ⟨OwnE.rd ho0, OwnE.rd ho1⟩) hal)
    clear hb5 ho0 ho1 hal S2 CS
    go_wp2_with fail
    generalize (w5.alloc (.cells #[.int .i64 (T.getD Tab.zero).n, .slice b2 (T.getD Tab.zero).xs.length e2, .slice b3 (T.getD Tab.zero).zs.length e3] 29)) = w6 at *
    clear hg8
    refine (spec_DrawImageOf_any zs1 _ _ (Rd.below HZ1.out S3.out.bel rfl) HR1.out).mono ?_; rintro e w7 ⟨⟨dn, xs, zs2⟩, ⟨xa, xb, xc⟩, t0, t1, rfl, hlx, hlz, hr0, hr1, hb7⟩
    dsimp only at hlx hlz hr0 hr1 ⊢
    obtain ⟨b4, e4, rfl, _⟩ := hr0.form
    obtain ⟨b5, e5, rfl, _⟩ := hr1.form
    obtain ⟨g10, hg10⟩ : ∃ g, w7.heap.size = g := ⟨_, rfl⟩
    have hal := (show Below w7.heap.size w7 ((w7.alloc (.cells #[.int .i64 dn, .slice b4 xs.length e4, .slice b5 zs2.length e5] 29)).alloc (.cells #[.int .i64 xa, .int .i64 xb, .int .i64 xc] 33)) from belo)
    have S4 := Lib.hid (((S3.out.call hb7).pushT dn (.slice b4 xs.length e4) (.slice b5 zs2.length e5) hg10).push3 xa xb xc (g := g10 + 1) (by simp [hg10]))
    replace RC := Lib.hid (RdE.below (RdE.below RC.out hb7 rfl) hal rfl)
    replace RT := Lib.hid (Rt.call (Rt.call RT.out hb7) hal)
    replace RW := Lib.hid (Rt.call (Rt.call RW.out hb7) hal)
    have RI := Lib.hid (Rt.call (show Rt w7 (.slice b4 xs.length e4) (.slice b5 zs2.length e5) xs zs2 from ⟨hr0, hr1⟩) hal)
    have CI := Lib.hid (fun W h h' => impl_ImageOf_any ⟨dn, xs, zs2⟩ ⟨xa, xb, xc⟩ (.slice b4 xs.length e4) (.slice b5 zs2.length e5) W h h' (by dsimp only; omega) (by dsimp only; omega))
    have CS := Lib.hid (fun W h h' => spec_ImageOf_any ⟨dn, xs, zs2⟩ ⟨xa, xb, xc⟩ (.slice b4 xs.length e4) (.slice b5 zs2.length e5) W h h' (by dsimp only; omega) (by dsimp only; omega))
    obtain ⟨I, hI⟩ : ∃ I, I = imgG ⟨dn, xs, zs2⟩ ⟨xa, xb, xc⟩ := ⟨_, rfl⟩
    rw [← hI] at CI CS
    dsimp only at CI CS
    obtain ⟨ia, hia⟩ : ∃ i, i = (I.getD ⟨0, 0, 0⟩).a := ⟨_, rfl⟩
    obtain ⟨ib, hib⟩ : ∃ i, i = (I.getD ⟨0, 0, 0⟩).b := ⟨_, rfl⟩
    obtain ⟨ic, hic⟩ : ∃ i, i = (I.getD ⟨0, 0, 0⟩).c := ⟨_, rfl⟩
    obtain ⟨ik, hik⟩ : ∃ i, i = I.isSome := ⟨_, rfl⟩
    rw [← hia, ← hib, ← hic, ← hik] at CI CS
    clear hb7 hr0 hr1 hal S3 hI hia hib hic hik
    obtain ⟨⟨a0, a1, a2⟩, -⟩ := (S4.out.at 1 rfl).c3
    obtain ⟨⟨p0, p1, p2⟩, -⟩ := S4.out.head.c3
    go_wp2_with fail
    clear a0 a1 a2 p0 p1 p2
    generalize ((w7.alloc (.cells #[.int .i64 dn, .slice b4 xs.length e4, .slice b5 zs2.length e5] 29)).alloc (.cells #[.int .i64 xa, .int .i64 xb, .int .i64 xc] 33)) = w8 at *
    clear hg10
    refine (CI.out _ RI.out.1 RI.out.2).mono ?_; rintro e w9 ⟨rfl, hb9⟩
    obtain ⟨g12, hg12⟩ : ∃ g, w9.heap.size = g := ⟨_, rfl⟩
    have hal := (show Below w9.heap.size w9 (w9.alloc (.cells #[.int .i64 ia, .int .i64 ib, .int .i64 ic] 33)) from belo)
    have S5 := Lib.hid ((S4.out.call hb9).push3 ia ib ic hg12)
    replace RC := Lib.hid (RdE.below (RdE.below RC.out hb9 rfl) hal rfl)
    replace RT := Lib.hid (Rt.call (Rt.call RT.out hb9) hal)
    replace RW := Lib.hid (Rt.call (Rt.call RW.out hb9) hal)
    replace RI := Lib.hid (Rt.call (Rt.call RI.out hb9) hal)
    clear hb9 hal S4 CI
    obtain ⟨⟨a0, a1, a2⟩, -⟩ := (S5.out.at 2 rfl).c3
    obtain ⟨⟨p0, p1, p2⟩, -⟩ := (S5.out.at 1 rfl).c3
    go_wp2_with fail
    clear a0 a1 a2 p0 p1 p2
    generalize (w9.alloc (.cells #[.int .i64 ia, .int .i64 ib, .int .i64 ic] 33)) = w10 at *
    clear hg12
    refine (CS.out _ RI.out.1 RI.out.2).mono ?_; rintro e w11 ⟨rfl, hb11⟩
    obtain ⟨g14, hg14⟩ : ∃ g, w11.heap.size = g := ⟨_, rfl⟩
    have hal := (show Below w11.heap.size w11 (w11.alloc (.cells #[.int .i64 ia, .int .i64 ib, .int .i64 ic] 33)) from belo)
    have S6 := Lib.hid ((S5.out.call hb11).push3 ia ib ic hg14)
    replace RC := Lib.hid (RdE.below (RdE.below RC.out hb11 rfl) hal rfl)
    replace RT := Lib.hid (Rt.call (Rt.call RT.out hb11) hal)
    replace RW := Lib.hid (Rt.call (Rt.call RW.out hb11) hal)
    clear hb11 hal S5 CS RI
    obtain ⟨⟨a0, a1, a2⟩, -⟩ := (S6.out.at 5 rfl).c3
    obtain ⟨⟨p0, p1, p2⟩, -⟩ := (S6.out.at 4 rfl).c3
    have CQ := Lib.hid (fun W (h : Rt W _ _ _ _) (h' : Rt W _ _ _ _) => laws_qTableau_ok (T.getD Tab.zero).n (T.getD Tab.zero).xs (T.getD Tab.zero).zs (.slice b0 (T.getD Tab.zero).xs.length e0) (.slice b1 (T.getD Tab.zero).zs.length e1) (.slice b2 (T.getD Tab.zero).xs.length e2) (.slice b3 (T.getD Tab.zero).zs.length e3) W h.1 h.2 h'.1 h'.2 HTL.out.1 HTL.out.2)
    go_wp2_with fail
    clear a0 a1 a2 p0 p1 p2
    generalize (w11.alloc (.cells #[.int .i64 ia, .int .i64 ib, .int .i64 ic] 33)) = w12 at *
    clear hg14
    refine (CQ.out _ RT.out RW.out).mono ?_; rintro e w13 ⟨rfl, hb13⟩
    replace S6 := Lib.hid (S6.out.call hb13)
    replace RC := Lib.hid (RdE.below RC.out hb13 rfl)
    replace RT := Lib.hid (Rt.call RT.out hb13)
    clear hb13 CQ RW
    obtain ⟨⟨i0, i1, i2⟩, -⟩ := (S6.out.at 0 rfl).c3
    obtain ⟨⟨j0, j1, j2⟩, -⟩ := (S6.out.at 1 rfl).c3
    by_cases hc : clifB d = true
    · obtain ⟨n, hn, n1, n5⟩ := clif_nat hc
      have TP := HCL.out hc n hn
      have hTs : T = some ⟨(n : Int), pes (tofX n d.gs d.gs.length), pes (tofZ n d.gs d.gs.length)⟩ := HT.out.trans TP.tof
      have KL := Lib.hid (fun (h3 : n ≤ 3) q W a b ca cb h1 h2 => mul_left hc hn h3 hl9 q W a b ca cb h1 h2)
      have KR := Lib.hid (fun (h3 : n ≤ 3) q hq W a b ca cb h1 h2 => mul_right hc hn h3 hl9 q hq W a b ca cb h1 h2)
      have KO := Lib.hid (fun (h3 : n ≤ 3) W (h : RdE W (.slice au d.gs.length cu) E3.cs 3 d.gs) => impl_OperatorOf_ok d n hc hn h3 hl9 _ W h)
      have KI := Lib.hid (fun q (_ : PNn n q) => img_n TP.sym q)
      have lx : (pes (tofX n d.gs d.gs.length)).length ≤ 5 := by rw [pes_len, tofX_len]; exact n5
      have lz : (pes (tofZ n d.gs d.gs.length)).length ≤ 5 := by rw [pes_len, tofZ_len]; exact n5
      have TI := TP.inv; have TC := TP.cmp; have TD := TP.idt; have TV := TP.val; have TG := TP.img
      clear TP HCL HNO HTL HT
      subst hTs
      dsimp only [Option.getD_some, Option.isSome_some] at S6 RT ⊢
      rw [hn] at S6 ⊢
      generalize hXS : pes (tofX n d.gs d.gs.length) = XS at *
      generalize hZS : pes (tofZ n d.gs d.gs.length) = ZS at *
      generalize tofX n d.gs d.gs.length = LX at *
      generalize tofZ n d.gs d.gs.length = LZ at *
      have lix : (pes (invXs LX LZ n n)).length ≤ 5 := by rw [pes_len, invXs_len]; exact n5
      have liz : (pes (invZs LX LZ n n)).length ≤ 5 := by rw [pes_len, invZs_len]; exact n5
      have ljx : (pes (idPX n)).length ≤ 5 := by rw [pes_len, idPX_len]; exact n5
      have ljz : (pes (idPZ n)).length ≤ 5 := by rw [pes_len, idPZ_len]; exact n5
      generalize pes (invXs LX LZ n n) = IX at *
      generalize pes (invZs LX LZ n n) = IZ at *
      generalize pes (idPX n) = JX at *
      generalize pes (idPZ n) = JZ at *
      have C1 := Lib.hid (fun W s r (h : Rt W s r XS ZS) => impl_InvertTableau_any ⟨(n : Int), XS, ZS⟩ s r W h.1 h.2 (by dsimp only; omega) (by dsimp only; omega))
      have C2 := Lib.hid (fun W s r u v (h : Rt W s r XS ZS) (h' : Rt W u v IX IZ) => impl_ComposeTableaux_any ⟨(n : Int), XS, ZS⟩ ⟨(n : Int), IX, IZ⟩ s r u v W h.1 h.2 h'.1 h'.2 (by dsimp only; omega) (by dsimp only; omega) (by dsimp only; omega) (by dsimp only; omega))
      have C3 := Lib.hid (fun W => impl_IdentityTableau_any (n : Int) W)
      have C4 := Lib.hid (fun W s r (h : Rt W s r XS ZS) => impl_IsValidTableau_any ⟨(n : Int), XS, ZS⟩ s r W h.1 h.2 (by dsimp only; omega) (by dsimp only; omega))
      have C5 := Lib.hid (fun W s r u v (h : Rt W s r JX JZ) (h' : Rt W u v JX JZ) => laws_qTableau_ok (n : Int) JX JZ s r u v W h.1 h.2 h'.1 h'.2 (by omega) (by omega))
      have C6 := Lib.hid (fun W s r (q : PN) (hq : PNn n q) (h : Rt W s r XS ZS) => (show Calls Tryz.prog 8 #[.agg #[.int .i64 (n : Int), s, r], .agg #[.int .i64 ((q).p : Int), .int .i64 ((q).x : Int), .int .i64 ((q).z : Int)]] W (fun e w' => e = .returned (.tuple #[.agg #[.int .i64 ((imgN LX LZ q n).p : Int), .int .i64 ((imgN LX LZ q n).x : Int), .int .i64 ((imgN LX LZ q n).z : Int)], .bool true]) ∧ Below W.heap.size W w') from by
        have h9 := impl_ImageOf_any ⟨(n : Int), XS, ZS⟩ q.e s r W h.1 h.2 (by dsimp only; omega) (by dsimp only; omega)
        rw [TG q hq] at h9
        exact h9))
      rw [TI] at C1
      rw [TC] at C2
      rw [TD] at C3
      rw [TV] at C4
      dsimp only at C1 C2 C3 C4
      clear TI TC TD TV TG hXS hZS
      obtain ⟨⟨k0, k1, k2⟩, -⟩ := (S6.out.at 5 rfl).c3
      go_wp2_with fail
      clear i0 i1 i2 j0 j1 j2 k0 k1 k2
      refine (C1.out _ _ _ RT.out).mono ?_; rintro e w14 ⟨t0, t1, rfl, ho0, ho1, _, hb14⟩
      dsimp only [Option.getD_some, Option.isSome_some] at ho0 ho1 ⊢
      obtain ⟨b6, e6, rfl⟩ := ho0.forms
      obtain ⟨b7, e7, rfl⟩ := ho1.forms
      obtain ⟨g16, hg16⟩ : ∃ g, w14.heap.size = g := ⟨_, rfl⟩
      have hal := (show Below w14.heap.size w14 (w14.alloc (.cells #[.int .i64 (n : Int), .slice b6 IX.length e6, .slice b7 IZ.length e7] 29)) from belo)
      have S7 := Lib.hid ((S6.out.call hb14).pushT (n : Int) (.slice b6 IX.length e6) (.slice b7 IZ.length e7) hg16)
      replace RC := Lib.hid (RdE.below (RdE.below RC.out hb14 rfl) hal rfl)
      replace RT := Lib.hid (Rt.call (Rt.call RT.out hb14) hal)
      have RV := Lib.hid (Rt.call (show Rt w14 (.slice b6 IX.length e6) (.slice b7 IZ.length e7) IX IZ from ⟨OwnE.rd ho0, OwnE.rd ho1⟩) hal)
      clear hb14 ho0 ho1 hal S6 C1
      obtain ⟨⟨i0, i1, i2⟩, -⟩ := (S7.out.at 6 rfl).c3
      obtain ⟨⟨k0, k1, k2⟩, -⟩ := (S7.out.at 0 rfl).c3
      go_wp2_with fail
      clear i0 i1 i2 k0 k1 k2
      generalize (w14.alloc (.cells #[.int .i64 (n : Int), .slice b6 IX.length e6, .slice b7 IZ.length e7] 29)) = w15 at *
      clear hg16
      refine (C2.out _ _ _ _ _ RT.out RV.out).mono ?_; rintro e w16 ⟨t0, t1, rfl, ho0, ho1, _, hb16⟩
      dsimp only [Option.getD_some, Option.isSome_some] at ho0 ho1 ⊢
      obtain ⟨b8, e8, rfl⟩ := ho0.forms
      obtain ⟨b9, e9, rfl⟩ := ho1.forms
      obtain ⟨g18, hg18⟩ : ∃ g, w16.heap.size = g := ⟨_, rfl⟩
      have hal := (show Below w16.heap.size w16 (w16.alloc (.cells #[.int .i64 (n : Int), .slice b8 JX.length e8, .slice b9 JZ.length e9] 29)) from belo)
      have S8 := Lib.hid ((S7.out.call hb16).pushT (n : Int) (.slice b8 JX.length e8) (.slice b9 JZ.length e9) hg18)
      replace RC := Lib.hid (RdE.below (RdE.below RC.out hb16 rfl) hal rfl)
      replace RT := Lib.hid (Rt.call (Rt.call RT.out hb16) hal)
      have RS := Lib.hid (Rt.call (show Rt w16 (.slice b8 JX.length e8) (.slice b9 JZ.length e9) JX JZ from ⟨OwnE.rd ho0, OwnE.rd ho1⟩) hal)
      clear hb16 ho0 ho1 hal S7 C2 RV
      obtain ⟨⟨i0, i1⟩, -⟩ := (S8.out.at 8 rfl).c2
      go_wp2_with fail
      clear i0 i1
      generalize (w16.alloc (.cells #[.int .i64 (n : Int), .slice b8 JX.length e8, .slice b9 JZ.length e9] 29)) = w17 at *
      clear hg18
      refine (C3.out _).mono ?_; rintro e w18 ⟨t0, t1, rfl, ho0, ho1, _, hb18⟩
      dsimp only [Option.getD_some, Option.isSome_some] at ho0 ho1 ⊢
      obtain ⟨b10, e10, rfl⟩ := ho0.forms
      obtain ⟨b11, e11, rfl⟩ := ho1.forms
      obtain ⟨g20, hg20⟩ : ∃ g, w18.heap.size = g := ⟨_, rfl⟩
      have hal := (show Below w18.heap.size w18 (w18.alloc (.cells #[.int .i64 (n : Int), .slice b10 JX.length e10, .slice b11 JZ.length e11] 29)) from belo)
      have S9 := Lib.hid ((S8.out.call hb18).pushT (n : Int) (.slice b10 JX.length e10) (.slice b11 JZ.length e11) hg20)
      replace RC := Lib.hid (RdE.below (RdE.below RC.out hb18 rfl) hal rfl)
      replace RT := Lib.hid (Rt.call (Rt.call RT.out hb18) hal)
      replace RS := Lib.hid (Rt.call (Rt.call RS.out hb18) hal)
      have RJ := Lib.hid (Rt.call (show Rt w18 (.slice b10 JX.length e10) (.slice b11 JZ.length e11) JX JZ from ⟨OwnE.rd ho0, OwnE.rd ho1⟩) hal)
      clear hb18 ho0 ho1 hal S8 C3
      obtain ⟨⟨i0, i1, i2⟩, -⟩ := (S9.out.at 0 rfl).c3
      obtain ⟨⟨j0, j1, j2⟩, -⟩ := (S9.out.at 1 rfl).c3
      obtain ⟨⟨k0, k1, k2⟩, -⟩ := (S9.out.at 8 rfl).c3
      go_wp2_with fail
      clear i0 i1 i2 j0 j1 j2 k0 k1 k2
      generalize (w18.alloc (.cells #[.int .i64 (n : Int), .slice b10 JX.length e10, .slice b11 JZ.length e11] 29)) = w19 at *
      clear hg20
      refine (C5.out _ _ _ _ _ RS.out RJ.out).mono ?_; rintro e w20 ⟨rfl, hb20⟩
      replace S9 := Lib.hid (S9.out.call hb20)
      replace RC := Lib.hid (RdE.below RC.out hb20 rfl)
      replace RT := Lib.hid (Rt.call RT.out hb20)
      clear hb20 RS RJ C5
      obtain ⟨⟨k0, k1, k2⟩, -⟩ := (S9.out.at 8 rfl).c3
      go_wp2_with fail
      clear k0 k1 k2
      refine (C4.out _ _ _ RT.out).mono ?_; rintro e w21 ⟨rfl, hb21⟩
      replace S9 := Lib.hid (S9.out.call hb21)
      replace RC := Lib.hid (RdE.below RC.out hb21 rfl)
      replace RT := Lib.hid (Rt.call RT.out hb21)
      clear hb21 C4
      obtain ⟨⟨c50, c51⟩, -⟩ := (S9.out.at 9 rfl).c2
      by_cases h3 : n ≤ 3
      · have i3 : ¬ (3 : Int) < (n : Int) := by omega
        have CN := Lib.hid (fun W h => laws_qNumber_ok zs1 (.slice A1 zs1.length c1) W h HR1.out hl1)
        have hN8 := pow3 h3
        have hN1 := Nat.one_le_two_pow (n := n)
        have KL := Lib.hid (KL.out h3); have KR := Lib.hid (KR.out h3); have KO := Lib.hid (KO.out h3)
        have KP := Lib.hid (fun (q : PN) W (hq : PNn n q) => (show Calls Tryz.prog 17 #[.int .i64 (n : Int), .agg #[.int .i64 ((q).p : Int), .int .i64 ((q).x : Int), .int .i64 ((q).z : Int)]] W (fun e w' => MatAns W (2 ^ n) (2 ^ n) (pmD n q) e w') from impl_PauliMatrix_ok n q W n1 n5 (decide_eq_true ⟨⟨by omega, by omega⟩, pau_of hq⟩) (hq.ok n5)))
        have HNQ := Lib.hid (show ∀ m : Nat, PNn n ⟨m % 4, m / 4 % 2 ^ n, m / 4 / 2 ^ n % 2 ^ n⟩ from fun m => ⟨by dsimp only; omega, Nat.mod_lt _ (by omega), Nat.mod_lt _ (by omega)⟩)
        obtain ⟨N, hN⟩ : ∃ N, N = 2 ^ n := ⟨_, rfl⟩
        have hw : IntKind.i64.wrap ((2 : Int) ^ n) = (N : Int) := by
          rw [show ((2 : Int) ^ n) = ((2 ^ n : Nat) : Int) by push_cast; rfl, ← hN]
          exact IntWalk.i64_in _ (by omega)
        rw [← hN] at KL KR KO KP HNQ hN8 hN1
        have m0 : (0 : Int) ≤ n := by omega
        have m3 : (n : Int) ≤ 3 := by omega
        clear hN
        go_wp2_with fail
        clear c50 c51 hw m0 m3
        refine (CN.out _ (Rd.below HZ1.out S9.out.bel rfl)).mono ?_; rintro e w22 ⟨m, rfl, hm, hb22⟩
        have S10 := Lib.hid (S9.out.call hb22)
        replace RC := Lib.hid (RdE.below RC.out hb22 rfl)
        replace RT := Lib.hid (Rt.call RT.out hb22)
        clear hb22 CN S9
        have HQ := Lib.hid (HNQ.out m)
        obtain ⟨p, hp⟩ : ∃ p, p = m % 4 := ⟨_, rfl⟩
        obtain ⟨m4, hm4⟩ : ∃ p, p = m / 4 := ⟨_, rfl⟩
        obtain ⟨x, hx⟩ : ∃ p, p = m4 % N := ⟨_, rfl⟩
        obtain ⟨md, hmd⟩ : ∃ p, p = m4 / N := ⟨_, rfl⟩
        obtain ⟨z, hz⟩ : ∃ p, p = md % N := ⟨_, rfl⟩
        rw [← hm4, ← hp, ← hmd, ← hx, ← hz] at HQ
        have r1 : Int.tmod (m : Int) 4 = (p : Int) := by rw [hp]; rfl
        have r2 : Int.tdiv (m : Int) 4 = (m4 : Int) := by rw [hm4]; rfl
        have r3 : Int.tmod (m4 : Int) (N : Int) = (x : Int) := by rw [hx]; rfl
        have r4 : Int.tdiv (m4 : Int) (N : Int) = (md : Int) := by rw [hmd]; rfl
        have r5 : Int.tmod (md : Int) (N : Int) = (z : Int) := by rw [hz]; rfl
        have s1 : (m : Int) % 4 = (p : Int) := by omega
        have s2 : (m : Int) / 4 = (m4 : Int) := by omega
        have nN : ¬ N = 0 := by omega
        have u4 : m4 < 99991 := by omega
        have u5 : md < 99991 := by rw [hmd]; exact Nat.lt_of_le_of_lt (Nat.div_le_self _ _) u4
        clear hp hm4 hx hmd hz HNQ
        go_wp2_with fail
        obtain ⟨g24, hg24⟩ : ∃ g, w22.heap.size = g := ⟨_, rfl⟩
        go_region
        have S11 := Lib.hid (S10.out.push3 (p : Int) (x : Int) (z : Int) hg24).drew
        have hal := (show Below w22.heap.size w22 ((w22.alloc (.cells #[.int .i64 (p : Int), .int .i64 (x : Int), .int .i64 (z : Int)] 33)).drew) from belo)
        replace RC := Lib.hid (RdE.below RC.out hal rfl)
        replace RT := Lib.hid (Rt.call RT.out hal)
        clear hal S10 r1 r2 r3 r4 r5 s1 s2
        generalize (w22.alloc (.cells #[.int .i64 (p : Int), .int .i64 (x : Int), .int .i64 (z : Int)] 33)).drew = w23 at *
        clear hg24
        obtain ⟨⟨i0, i1, i2⟩, -⟩ := S11.out.head.c3
        obtain ⟨⟨k0, k1, k2⟩, -⟩ := (S11.out.at 9 rfl).c3
        have HI := Lib.hid (KI.out _ HQ.out)
        have C7 := Lib.hid (fun W s r (h : Rt W s r XS ZS) => C6.out W s r ⟨p, x, z⟩ HQ.out h)
        have KP1 := Lib.hid (fun W => KP.out ⟨p, x, z⟩ W HQ.out)
        have KP2 := Lib.hid (fun W => KP.out _ W HI.out)
        have KL1 := Lib.hid (fun W a b ca cb h1 h2 => KL.out ⟨p, x, z⟩ W a b ca cb h1 h2)
        have KR1 := Lib.hid (fun W a b ca cb h1 h2 => KR.out ⟨p, x, z⟩ HQ.out W a b ca cb h1 h2)
        clear C6 KP KL KR KI
        generalize imgN LX LZ ⟨p, x, z⟩ n = cj at *
        obtain ⟨cp, cx, cz⟩ := cj
        dsimp only at C7 KP1 KP2
        go_wp2_with fail
        clear i0 i1 i2 k0 k1 k2
        refine (C7.out _ _ _ RT.out).mono ?_; rintro e w24 ⟨rfl, hb24⟩
        obtain ⟨g25, hg25⟩ : ∃ g, w24.heap.size = g := ⟨_, rfl⟩
        have hal := (show Below w24.heap.size w24 (w24.alloc (.cells #[.int .i64 (cp : Int), .int .i64 (cx : Int), .int .i64 (cz : Int)] 33)) from belo)
        have S12 := Lib.hid ((S11.out.call hb24).push3 (cp : Int) (cx : Int) (cz : Int) hg25)
        replace RC := Lib.hid (RdE.below (RdE.below RC.out hb24 rfl) hal rfl)
        clear hb24 hal S11 C7 RT
        obtain ⟨⟨i0, i1⟩, -⟩ := (S12.out.at 11 rfl).c2
        go_wp2_with fail
        clear i0 i1
        generalize (w24.alloc (.cells #[.int .i64 (cp : Int), .int .i64 (cx : Int), .int .i64 (cz : Int)] 33)) = w25 at *
        clear hg25
        refine (KO.out _ RC.out).mono ?_; rintro e w26 ⟨ax, cax, rfl, hO, hb26⟩
        obtain ⟨g27, hg27⟩ : ∃ g, w26.heap.size = g := ⟨_, rfl⟩
        have S13 := Lib.hid ((S12.out.call hb26).pushM (N : Int) (N : Int) (.slice ax (N * N) cax) hg27)
        have hal := (show Below w26.heap.size w26 (w26.alloc (.cells #[.int .i64 (N : Int), .int .i64 (N : Int), .slice ax (N * N) cax] 47)) from belo)
        have V1 := Lib.hid (RdM.call (show RdM w26 N N ax cax (opF n d.gs d.gs.length) from OwnE.rd hO) hal)
        clear hb26 hO hal S12
        obtain ⟨⟨i0, i1⟩, -⟩ := (S13.out.at 12 rfl).c2
        obtain ⟨⟨j0, j1, j2⟩, -⟩ := (S13.out.at 2 rfl).c3
        go_wp2_with fail
        clear i0 i1 j0 j1 j2
        generalize (w26.alloc (.cells #[.int .i64 (N : Int), .int .i64 (N : Int), .slice ax (N * N) cax] 47)) = w27 at *
        clear hg27
        refine (KP1.out _).mono ?_; rintro e w28 ⟨ay, cay, rfl, hO, hb28⟩
        obtain ⟨g29, hg29⟩ : ∃ g, w28.heap.size = g := ⟨_, rfl⟩
        have S14 := Lib.hid ((S13.out.call hb28).pushM (N : Int) (N : Int) (.slice ay (N * N) cay) hg29)
        have hal := (show Below w28.heap.size w28 (w28.alloc (.cells #[.int .i64 (N : Int), .int .i64 (N : Int), .slice ay (N * N) cay] 47)) from belo)
        replace V1 := Lib.hid (RdM.call (RdM.call V1.out hb28) hal)
        have V2 := Lib.hid (RdM.call (show RdM w28 N N ay cay (pmD n ⟨p, x, z⟩) from hO) hal)
        clear hb28 hO hal S13
        obtain ⟨⟨i0, i1⟩, -⟩ := (S14.out.at 13 rfl).c2
        obtain ⟨⟨j0, j1, j2⟩, -⟩ := (S14.out.at 2 rfl).c3
        go_wp2_with fail
        clear i0 i1 j0 j1 j2
        generalize (w28.alloc (.cells #[.int .i64 (N : Int), .int .i64 (N : Int), .slice ay (N * N) cay] 47)) = w29 at *
        clear hg29
        refine (KP2.out _).mono ?_; rintro e w30 ⟨az, caz, rfl, hO, hb30⟩
        obtain ⟨g31, hg31⟩ : ∃ g, w30.heap.size = g := ⟨_, rfl⟩
        have S15 := Lib.hid ((S14.out.call hb30).pushM (N : Int) (N : Int) (.slice az (N * N) caz) hg31)
        have hal := (show Below w30.heap.size w30 (w30.alloc (.cells #[.int .i64 (N : Int), .int .i64 (N : Int), .slice az (N * N) caz] 47)) from belo)
        replace V1 := Lib.hid (RdM.call (RdM.call V1.out hb30) hal)
        replace V2 := Lib.hid (RdM.call (RdM.call V2.out hb30) hal)
        have V3 := Lib.hid (RdM.call (show RdM w30 N N az caz (pmD n ⟨cp, cx, cz⟩) from hO) hal)
        clear hb30 hO hal S14
        obtain ⟨⟨i0, i1, i2⟩, -⟩ := (S15.out.at 1 rfl).c3
        obtain ⟨⟨j0, j1, j2⟩, -⟩ := (S15.out.at 2 rfl).c3
        go_wp2_with fail
        clear i0 i1 i2 j0 j1 j2
        generalize (w30.alloc (.cells #[.int .i64 (N : Int), .int .i64 (N : Int), .slice az (N * N) caz] 47)) = w31 at *
        clear hg31
        refine (KL1.out _ _ _ _ _ V1.out V2.out).mono ?_; rintro e w32 ⟨al, cal, rfl, hO, hb32⟩
        obtain ⟨g33, hg33⟩ : ∃ g, w32.heap.size = g := ⟨_, rfl⟩
        have S16 := Lib.hid ((S15.out.call hb32).pushM (N : Int) (N : Int) (.slice al (N * N) cal) hg33)
        have hal := (show Below w32.heap.size w32 (w32.alloc (.cells #[.int .i64 (N : Int), .int .i64 (N : Int), .slice al (N * N) cal] 47)) from belo)
        replace V1 := Lib.hid (RdM.call (RdM.call V1.out hb32) hal)
        replace V3 := Lib.hid (RdM.call (RdM.call V3.out hb32) hal)
        have V4 := Lib.hid (RdM.call (show RdM w32 N N al cal (bothD n d.gs ⟨p, x, z⟩) from hO) hal)
        clear hb32 hO hal S15
        obtain ⟨⟨i0, i1, i2⟩, -⟩ := (S16.out.at 1 rfl).c3
        obtain ⟨⟨j0, j1, j2⟩, -⟩ := (S16.out.at 3 rfl).c3
        go_wp2_with fail
        clear i0 i1 i2 j0 j1 j2
        generalize (w32.alloc (.cells #[.int .i64 (N : Int), .int .i64 (N : Int), .slice al (N * N) cal] 47)) = w33 at *
        clear hg33
        refine (KR1.out _ _ _ _ _ V3.out V1.out).mono ?_; rintro e w34 ⟨ar, car, rfl, hO, hb34⟩
        obtain ⟨g35, hg35⟩ : ∃ g, w34.heap.size = g := ⟨_, rfl⟩
        have S17 := Lib.hid ((S16.out.call hb34).pushM (N : Int) (N : Int) (.slice ar (N * N) car) hg35)
        have hal := (show Below w34.heap.size w34 (w34.alloc (.cells #[.int .i64 (N : Int), .int .i64 (N : Int), .slice ar (N * N) car] 47)) from belo)
        replace V4 := Lib.hid (RdM.call (RdM.call V4.out hb34) hal)
        have V5 := Lib.hid (RdM.call (show RdM w34 N N ar car (bothD n d.gs ⟨p, x, z⟩) from hO) hal)
        clear hb34 hO hal S16
        obtain ⟨⟨i0, i1, i2⟩, -⟩ := (S17.out.at 0 rfl).c3
        obtain ⟨⟨j0, j1, j2⟩, -⟩ := (S17.out.at 1 rfl).c3
        go_wp2_with fail
        clear i0 i1 i2 j0 j1 j2
        generalize (w34.alloc (.cells #[.int .i64 (N : Int), .int .i64 (N : Int), .slice ar (N * N) car] 47)) = w35 at *
        clear hg35
        have hV4 := V4.out; have hV5 := V5.out
        unfold RdM at hV4 hV5
        have hNN : N * N ≤ 8 * 8 := Nat.mul_le_mul hN8 hN8
        refine (spec_EqualMatrices_ok N N al ar (N * N) cal car (cellsTo N (bothD n d.gs ⟨p, x, z⟩) (N * N)) _ (by rw [cellsTo_len]) hV4 hV5 (by omega)).mono ?_; rintro e w36 ⟨rfl, hb36⟩
        have S18 := Lib.hid (S17.out.call hb36)
        clear hb36 S17
        go_wp2_with fail
        go_ret
        exact ⟨rfl, S18.out.bel⟩
      · have i3 : (3 : Int) < (n : Int) := by omega
        go_wp2_with fail
        go_ret
        exact ⟨rfl, S9.out.bel⟩
    · obtain rfl : T = none := HNO.out hc
      clear HNO HTL HT HCL
      go_wp2_with fail
      go_ret
      exact ⟨rfl, S6.out.bel⟩
end Go.Proofs.YtnckabohlakbgaaGreat
namespace Go.Proofs.YtnckabohlakbgaaGreat.lawTableaux
set_option linter.unusedSimpArgs false
set_option linter.unusedVariables false
set_option linter.unnecessarySimpa false
set_option maxRecDepth 200000
open Go.ChangeShapes Go.WideShapes Go.ChangeAt Go.RowKit

set_option maxRecDepth 100000 in
theorem lifted (os : Os) (started : os.Started) (H : Type) (enc : TypeId × Value → H) :
    ReturnsInHanded {} Tryz.checked os 3 .any (Rows.fnTableauxSpec.pre6 enc Tryz.prog Tryz.f3 Rows.fnTableauxRow.domain false) (Rows.fnTableauxSpec.post enc Tryz.prog Tryz.f3 false true false false) := by
  refine law_lifted (C := Tryz.checked) own started (by kernel_rfl) Tryz.func3 rfl laidOut (of_decide_eq_true (by kernel_rfl)) rfl Tryz.underlying4
      (fun ds hds => by match ds, hds with | [_, _], _ => rfl)
      (ChangeSpec.witness6 (enc := enc) (C := Tryz.checked) false ⟨#[], #[.slice none 0 0, .slice none 0 0], []⟩ 8 (by kernel_rfl) (by kernel_rfl) (by kernel_rfl) (by kernel_rfl)) ?_
  intro W base args ds p hval0 hA0
  have hval : ∀ (j : Nat) t v, Tryz.f3.params[j]? = some t → args[j]? = some v → Value.okWide Tryz.prog W .any base t v := hval0
  have hA : DataW.TrodAll enc Tryz.prog W 0 (fun _ => true) true Tryz.f3.params.toList args.toList ds p := hA0
  rw [Tryz.params3] at hA hval
  clear hval0 hA0
  obtain ⟨v0, vs0, d0, ds0, p0, q0, hargs, rfl, rfl, h0, r0⟩ := trodAll_cons hA
  obtain ⟨v1, vs1, d1, ds1, p1, q1, rfl, rfl, rfl, h1, r1⟩ := trodAll_cons r0
  obtain ⟨rfl, rfl, rfl⟩ := trodAll_nil r1
  obtain rfl : args = #[v0, v1] := by cases args; simp_all
  exact walk_FnTableaux v0 v1 W (isBytes_of (hval 0 22 v0 rfl rfl) h0) (isBytes_of (hval 1 22 v1 rfl rfl) h1)

theorem proved : Rows.FnTableauxSaid :=
  OpenClaim.holds_of_wide 3 Tryz.f3 rfl rfl rfl rfl rfl rfl rfl ⟨rfl, rfl, rfl, rfl, rfl⟩ rfl rfl rfl rfl rfl (by kernel_rfl) Tryz.func3 (by kernel_rfl)
    (of_decide_eq_true (by kernel_rfl)) (by unfold Func.isWrapper; first | (rw [if_pos (by decide +kernel)]; kernel_rfl) | (rw [if_neg (by decide +kernel)]; exact ⟨rfl, rfl⟩))
    (fun os started H enc _ => lifted os started H enc)
#print axioms proved
end Go.Proofs.YtnckabohlakbgaaGreat.lawTableaux
