/- The reference's word of least length: what stands at the loops, plain and in memory. -/
import Derived.Test.YtjdffjnennodaaaZ49Kw12
import Derived.Test.YtjdffjnennodaaaZ23Pau8
import Derived.Test.YtjdffjnennodaaaZ43M
import Derived.Test.YtjdffjnennodaaaZ11Brk
import Derived.BigRegion
import Derived.BigQuiet
import Derived.Deep.RegionLaw
import Derived.Deep.DeepCutAuto
import Derived.Deep.LoopGhost
namespace Go.Proofs.Ytjdffjnennodaaa
set_option linter.unusedSimpArgs false
set_option linter.unusedVariables false
set_option linter.unnecessarySimpa false
set_option maxRecDepth 200000
open Go.ChangeShapes Go.WideShapes Go.ChangeAt Go.RowKit Go.Maps

theorem Bt.noT {w : World} {g : Nat} {t : TypeId} {us : List Value} (h : Bt w g t us) {e : TypeId} (hne : t ≠ e) : ∀ b, some g = some b → ∀ cur, w.heap[b]? ≠ some (.cells cur e) := by
  obtain ⟨c2, hc⟩ := h.ty
  intro b e2 cur h9
  have e3 : g = b := by injection e2
  subst e3
  rw [hc] at h9
  injection h9 with h9
  injection h9 with _ h9
  exact hne h9
theorem own_ty {w : World} {base k sz : Nat} {t : TypeId} {v : Value} {xs : List Value} (h : w.ownsRow base t sz v k xs) {e : TypeId} (hne : t ≠ e) : ∀ b, v.ownBlock = some b → ∀ cur, w.heap[b]? ≠ some (.cells cur e) := by
  intro b hb cur h9
  rcases h.2 with ⟨rfl, _⟩ | ⟨g, cap, c2, rfl, _, hg, _⟩
  · cases hb
  · have e2 : g = b := by injection hb
    subst e2
    rw [hg] at h9
    injection h9 with h9
    injection h9 with _ h9
    exact hne h9
theorem Bt.ne_own {w : World} {g base k sz : Nat} {t e : TypeId} {us xs : List Value} {v : Value} (h : Bt w g t us) (ho : w.ownsRow base e sz v k xs) (hne : t ≠ e) : some g ≠ v.ownBlock := by
  intro e2
  obtain ⟨cur, hc⟩ := h.ty
  exact own_ty ho (Ne.symm hne) g e2.symm cur hc
theorem FarB.ne_own {w : World} {g base k sz : Nat} {F : Nat → Nat} {e : TypeId} {xs : List Value} {v : Value} (h : FarB w g F) (ho : w.ownsRow base e sz v k xs) (hne : 3 ≠ e) : some g ≠ v.ownBlock := by
  intro e2
  obtain ⟨cur, hc⟩ := h.ty
  exact own_ty ho (Ne.symm hne) g e2.symm cur hc
/-- The rows of the tableau at hand: the argument's, or of the call's own. -/
def Rw (W w : World) (n : Nat) (x : TT) (v0 v1 : Value) : Prop := (RdE W v0 E3.cs 3 (pes x.1) ∧ RdE W v1 E3.cs 3 (pes x.2)) ∨ Tr w n x v0 v1
section
variable {W w w' : World} {n : Nat} {x : TT} {v0 v1 : Value}
theorem Rw.rd (h : Rw W w n x v0 v1) (hx : SymT n x) (hb : Below W.heap.size W w) : RdE w v0 E3.cs 3 (pes x.1) ∧ RdE w v1 E3.cs 3 (pes x.2) := by
  rcases h with ⟨a, b⟩ | h
  · exact ⟨RdE.below a hb rfl, RdE.below b hb rfl⟩
  · exact h.rd hx
theorem Rw.call (h : Rw W w n x v0 v1) (hb : Below w.heap.size w w') : Rw W w' n x v0 v1 := h.imp id (fun h => h.call hb)
theorem Rw.kept (h : Rw W w n x v0 v1) {r : Option Nat} (hg : w.grownBy w' r) (hr : ∀ b, r = some b → ∀ cur, w.heap[b]? ≠ some (.cells cur 62) ∧ w.heap[b]? ≠ some (.cells cur 57)) : Rw W w' n x v0 v1 := h.imp id (fun h => h.kept hg hr)
end
/-- The memory at the loops. -/
structure LS (n : Nat) (W wr : World) (gC gF : Nat) (F : Nat → Nat) (x : TT) (pre : List Nat) (v0 v1 vG : Value) : Prop where
  bel : Below W.heap.size W wr
  t1 : Bt wr W.heap.size 30 [.int .i64 (n : Int), v0, v1]
  rb : Bt wr (W.heap.size + 1) 36 [.int .i64 0, .slice none 0 0]
  cb : Bt wr gC 36 [.int .i64 (n : Int), vG]
  far : FarB wr gF F
  fo : W.heap.size + 1 < gF
  co : gF < gC
  tr : Rw W wr n x v0 v1
  gs : wr.ownsRow (W.heap.size + 2) 57 3 vG pre.length ((gts n pre).flatMap E3.cs)
section
variable {n gC gF : Nat} {F : Nat → Nat} {W wr w' : World} {x : TT} {pre : List Nat} {v0 v1 vG : Value}
theorem LS.call (h : LS n W wr gC gF F x pre v0 v1 vG) (hb : Below wr.heap.size wr w') : LS n W w' gC gF F x pre v0 v1 vG :=
  ⟨Below.trans h.bel (hb.mono h.bel.size), h.t1.call hb, h.rb.call hb, h.cb.call hb, h.far.call hb, h.fo, h.co, h.tr.call hb, own_below h.gs hb rfl⟩
theorem LS.rd (h : LS n W wr gC gF F x pre v0 v1 vG) (hx : SymT n x) : RdE wr v0 E3.cs 3 (pes x.1) ∧ RdE wr v1 E3.cs 3 (pes x.2) := h.tr.rd hx h.bel
/-- A letter is appended, and the circuit's box takes the new slice. -/
theorem LS.app (h : LS n W wr gC gF F x pre v0 v1 vG) {g k a b : Nat} {vG' : Value} (hl : ltr3 n g = (k, a, b)) (ho : w'.ownsRow (W.heap.size + 2) 57 3 vG' (pre.length + 1) ((gts n pre).flatMap E3.cs ++ [.int .i64 (k : Int), .int .i64 (a : Int), .int .i64 (b : Int)])) (hg : wr.grownBy w' vG.ownBlock) :
    LS n W (w'.setCell ⟨gC, 1, none⟩ vG') gC gF F x (pre ++ [g]) v0 v1 vG' := by
  have hlt := h.gs.lt
  have n1 : some W.heap.size ≠ vG.ownBlock := h.t1.ne_own h.gs (by decide)
  have n2 : some (W.heap.size + 1) ≠ vG.ownBlock := h.rb.ne_own h.gs (by decide)
  have n3 : some gC ≠ vG.ownBlock := h.cb.ne_own h.gs (by decide)
  have n4 : some gF ≠ vG.ownBlock := h.far.ne_own h.gs (by decide)
  have c1 := h.cb.kept hg n3
  have q := set_grown w' gC 1 vG'
  have fo := h.fo
  have co := h.co
  refine ⟨?_, (h.t1.kept hg n1).kept q (fun e => ?_), (h.rb.kept hg n2).kept q (fun e => ?_), c1.set 1 vG', (h.far.kept hg n4).kept q (fun e => ?_), h.fo, h.co, ?_, ?_⟩
  · exact Below.setCell (h.bel.grown hg h.bel.size (fun b hb => by have := (hlt b hb).1; omega)) (show W.heap.size ≤ gC by omega) _
  · have e2 : W.heap.size = gC := by injection e
    omega
  · have e2 : W.heap.size + 1 = gC := by injection e
    omega
  · have e2 : gF = gC := by injection e
    omega
  · have hk : Rw W w' n x v0 v1 := by
      rcases h.tr with h9 | h9
      · exact .inl h9
      · exact .inr ⟨own_kept h9.rx hg (own_ty h.gs (by decide)), own_kept h9.rz hg (own_ty h.gs (by decide))⟩
    exact hk.kept q (fun b hb cur => ⟨c1.noT (by decide) b hb cur, c1.noT (by decide) b hb cur⟩)
  · exact own_kept (word_add hl ho) q (c1.noT (by decide))
/-- The tableau at hand is stored. -/
theorem LS.setT (h : LS n W wr gC gF F x pre v0 v1 vG) {y : TT} {p0 p1 : Value} (hn : Tr wr n y p0 p1) :
    LS n W (((wr.setCell ⟨W.heap.size, 0, none⟩ (.int .i64 (n : Int))).setCell ⟨W.heap.size, 1, none⟩ p0).setCell ⟨W.heap.size, 2, none⟩ p1) gC gF F y pre p0 p1 vG := by
  have fo := h.fo
  have co := h.co
  obtain ⟨a1, a2, a3⟩ := store_tr hn h.t1 h.bel (Nat.le_refl _)
  have g1 := set_grown wr W.heap.size 0 (.int .i64 (n : Int))
  have g2 := set_grown (wr.setCell ⟨W.heap.size, 0, none⟩ (.int .i64 (n : Int))) W.heap.size 1 p0
  have g3 := set_grown ((wr.setCell ⟨W.heap.size, 0, none⟩ (.int .i64 (n : Int))).setCell ⟨W.heap.size, 1, none⟩ p0) W.heap.size 2 p1
  have b1 := h.t1.set 0 (.int .i64 (n : Int))
  have b2 := b1.set 1 p0
  have ne1 : some (W.heap.size + 1) ≠ some W.heap.size := fun e => by injection e with e; omega
  have ne2 : some gC ≠ some W.heap.size := fun e => by injection e with e; omega
  have ne3 : some gF ≠ some W.heap.size := fun e => by injection e with e; omega
  exact ⟨a3, a2, ((h.rb.kept g1 ne1).kept g2 ne1).kept g3 ne1, ((h.cb.kept g1 ne2).kept g2 ne2).kept g3 ne2, ((h.far.kept g1 ne3).kept g2 ne3).kept g3 ne3, h.fo, h.co, .inr a1,
    own_kept (own_kept (own_kept h.gs g1 (h.t1.noT (by decide))) g2 (b1.noT (by decide))) g3 (b2.noT (by decide))⟩
/-- The start. -/
theorem LS.start {w1 : World} (T1 : Bt w1 W.heap.size 30 [.int .i64 (n : Int), v0, v1]) (R1 : Bt w1 (W.heap.size + 1) 36 [.int .i64 0, .slice none 0 0]) (F1 : FarB w1 gF F) (off : W.heap.size + 1 < gF) (B1 : Below W.heap.size W w1) (X1 : RdE W v0 E3.cs 3 (pes x.1) ∧ RdE W v1 E3.cs 3 (pes x.2)) :
    LS n W (w1.alloc (.cells #[.int .i64 (n : Int), .slice none 0 0] 36)) w1.heap.size gF F x [] v0 v1 (.slice none 0 0) := by
  have hb : Below w1.heap.size w1 (w1.alloc (.cells #[.int .i64 (n : Int), .slice none 0 0] 36)) := (by repeat (first | exact Below.refl _ _ | assumption | refine Below.drew ?_ | refine below_drewN ?_ _ | refine Below.alloc ?_ (by first | omega | (simp <;> omega)) _ | refine Below.setCell ?_ (by first | omega | (simp <;> omega)) _ | refine Below.trans ?_ (Below.mono (by assumption) (by first | omega | (simp <;> omega)))))
  exact ⟨Below.trans B1 (hb.mono B1.size), T1.call hb, R1.call hb, Bt.new w1 [.int .i64 (n : Int), .slice none 0 0] 36 rfl, F1.call hb, off, F1.m.lt, .inl X1, World.ownsRow_nil _ _ _ _⟩
end
/-- The word so far and what is left of it. -/
structure LP (n N : Nat) (Q : List (TT × List Nat)) (t x : TT) (pre wd : List Nat) : Prop where
  inv : InvT n N 0 Q
  few : ∀ p ∈ Q, p.2.length ≤ 12
  mem : (x, wd) ∈ Q
  all : ∃ w0, LWT n t (some w0) ∧ w0 = pre ++ wd
section
variable {n N : Nat} {Q : List (TT × List Nat)} {t x : TT} {pre wd w : List Nat} {g k : Nat}
theorem LP.start (h : InvT n N 0 Q) (hl : ∀ p ∈ Q, p.2.length ≤ 12) (ht : ∃ p ∈ Q, p.1 = t) : ∃ wd, LP n N Q t t [] wd := by
  obtain ⟨⟨y, u⟩, hp, rfl⟩ := ht
  exact ⟨u, h, hl, hp, u, LW.found (h.mw _ hp) (hl _ hp), rfl⟩
theorem LP.sym (h1 : 1 ≤ n) (h2 : n ≤ 2) (h : LP n N Q t x pre wd) : SymT n x := InvT.sym h1 h2 h.inv _ h.mem
theorem LP.far (h1 : 1 ≤ n) (h2 : n ≤ 2) (h : LP n N Q t x pre wd) : farV n Q (codeT n x) = wd.length + 1 := far_in h1 h2 h.inv h.mem
theorem LP.len (h : LP n N Q t x pre wd) : pre.length + wd.length ≤ 12 := by
  obtain ⟨w0, hw, e⟩ := h.all
  have := (LWT.few hw).2
  rw [e] at this; simpa using this
theorem LP.lt (h : LP n N Q t x pre (g :: w)) : g < KK n := (h.inv.mw _ h.mem).vw g (by simp)
/-- A letter before the first one does not lead back. -/
theorem LP.skip (h1 : 1 ≤ n) (h2 : n ≤ 2) (h : LP n N Q t x pre (g :: w)) (hk : k < g) : farV n Q (codeT n (bkT n x k)) = 0 ∨ w.length + 2 ≤ farV n Q (codeT n (bkT n x k)) := by
  have hg := h.lt
  by_cases hin : ∃ q ∈ Q, q.1 = bkT n x k
  · obtain ⟨⟨y, v⟩, hq, e⟩ := hin
    dsimp only at e; subst e
    have hm := (h.inv.mw _ h.mem).skip (K8 n) (back_ok h1 h2) hk (h.inv.mw _ hq)
    dsimp only at hm
    rw [far_in h1 h2 h.inv hq]
    right; omega
  · exact .inl (far_out h1 h2 h.inv (back_sym h1 h2 (by omega) (h.sym h1 h2)) hin)
theorem LP.hit (h1 : 1 ≤ n) (h2 : n ≤ 2) (h : LP n N Q t x pre (g :: w)) : LP n N Q t (bkT n x g) (pre ++ [g]) w := by
  have hm := (h.inv.mw _ h.mem).back (K8 n) (back_ok h1 h2)
  obtain ⟨⟨y, v⟩, hq, e⟩ := h.inv.below (K8 n) h.mem w hm.vw (by simp)
  dsimp only at e
  rw [hm.ev] at e
  subst e
  have e2 := MinW.inj (K8 n) hm (h.inv.mw _ hq)
  subst e2
  obtain ⟨w0, hw, e⟩ := h.all
  exact ⟨h.inv, h.few, hq, w0, hw, by rw [e]; simp⟩
theorem LP.end_ (h : LP n N Q t x pre []) : LWT n t (some pre) := by
  obtain ⟨w0, hw, e⟩ := h.all
  rw [List.append_nil] at e
  subst e; exact hw
end
end Go.Proofs.Ytjdffjnennodaaa
namespace Go.Proofs.Ytjdffjnennodaaa
set_option linter.unusedSimpArgs false
set_option linter.unusedVariables false
set_option linter.unnecessarySimpa false
set_option maxRecDepth 200000
open Go.ChangeShapes Go.WideShapes Go.ChangeAt Go.RowKit Go.Maps

set_option maxHeartbeats 16000000 in
theorem spec_l8Least_any (d : Tab) (v0 v1 : Value) (w : World) (h0 : RdE w v0 E3.cs 3 d.xs) (h1 : RdE w v1 E3.cs 3 d.zs) (n0 : d.xs.length ≤ 1048576) (n1 : d.zs.length ≤ 1048576) :
    Calls Try.prog 17 #[.agg #[.int .i64 d.n, v0, v1]] w (CircPost w (lwG d)) := by
  obtain ⟨i0, hi, hz0, hz1, hz2⟩ := info_parts info_Gate
  obtain ⟨dn, xs, zs⟩ := d
  dsimp only at h0 h1 n0 n1 ⊢
  have H0 := Lib.hid h0; have H1 := Lib.hid h1
  obtain ⟨A, c, rfl, _⟩ := h0.form
  obtain ⟨A2, c2, rfl, _⟩ := h1.form
  clear h0 h1
  have X := Lib.hid (((Sb.nil w).push [.int .i64 dn, .slice A xs.length c, .slice A2 zs.length c2] 30 rfl).push [.int .i64 0, .slice none 0 0] 36 (g := w.heap.size + 1) (by simp))
  have HV := Lib.hid (fun W h h' => spec_l7Good_any ⟨dn, xs, zs⟩ (.slice A xs.length c) (.slice A2 zs.length c2) W h h' n0 n1)
  by_cases ht : TabOk ⟨dn, xs, zs⟩
  · have HT := Lib.hid (show tabB ⟨dn, xs, zs⟩ = true from decide_eq_true ht)
    by_cases hn : dn ≤ 2
    · obtain ⟨n, hm, k1, k2, hs, ex, ez⟩ := lwG_parts ht hn
      dsimp only at hm
      subst hm
      have HG := Lib.hid (fun r h => lwG_of ht hn rfl (r := r) h)
      have HS := Lib.hid hs
      have HX := Lib.hid (show RdE w (.slice A xs.length c) E3.cs 3 (pes (tabT ⟨(n : Int), xs, zs⟩).1) from by rw [← ex]; exact H0.out)
      have HZ := Lib.hid (show RdE w (.slice A2 zs.length c2) E3.cs 3 (pes (tabT ⟨(n : Int), xs, zs⟩).2) from by rw [← ez]; exact H1.out)
      have i1 : ¬ (2 : Int) < (n : Int) := by omega
      have i2 : (n : Int) ≤ 2 := by omega
      have T1 := Lib.hid ((Bt.new w [.int .i64 (n : Int), .slice A xs.length c, .slice A2 zs.length c2] 30 rfl).call (show Below _ _ ((w.alloc (.cells #[.int .i64 (n : Int), .slice A xs.length c, .slice A2 zs.length c2] 30)).alloc (.cells #[.int .i64 0, .slice none 0 0] 36)) from (by repeat (first | exact Below.refl _ _ | assumption | refine Below.drew ?_ | refine below_drewN ?_ _ | refine Below.alloc ?_ (by first | omega | (simp <;> omega)) _ | refine Below.setCell ?_ (by first | omega | (simp <;> omega)) _ | refine Below.trans ?_ (Below.mono (by assumption) (by first | omega | (simp <;> omega)))))))
      have R1 := Lib.hid (Bt.new (w.alloc (.cells #[.int .i64 (n : Int), .slice A xs.length c, .slice A2 zs.length c2] 30)) [.int .i64 0, .slice none 0 0] 36 (g := w.heap.size + 1) (by simp))
      generalize tabT ⟨(n : Int), xs, zs⟩ = t at *
      generalize lwG ⟨(n : Int), xs, zs⟩ = r9 at *
      clear ht hs ex ez
      go_enter Try.func17, Try.ntmps17
      go_wp2_with fail
      refine (HV.out _ (Rd.below H0.out X.out.bel rfl) (Rd.below H1.out X.out.bel rfl)).mono ?_; rintro e w1 ⟨rfl, hb1⟩; rw [HT.out]
      replace X := Lib.hid (X.out.call hb1); replace T1 := Lib.hid (T1.out.call hb1); replace R1 := Lib.hid (R1.out.call hb1)
      clear hb1 HV HT H0 H1
      obtain ⟨⟨b0, b1, b2⟩, -⟩ := T1.out.bw.c3
      have hlt1 := R1.out.bw.lt
      go_wp2_with fail
      refine (spec_l8Far_any n k1 k2 t HS.out _ _ _ (RdE.below HX.out X.out.bel rfl) (RdE.below HZ.out X.out.bel rfl)).mono ?_
      rintro e w2 ⟨gF, N, Q, rfl, hF, hgF, hI, hL, hcase, hb2⟩
      replace X := Lib.hid (X.out.call hb2); replace T1 := Lib.hid (T1.out.call hb2); replace R1 := Lib.hid (R1.out.call hb2)
      have FB := Lib.hid hF; have HI := Lib.hid hI; have HL := Lib.hid hL; have HC := Lib.hid hcase
      have off : w.heap.size + 1 < gF := by omega
      clear b0 b1 b2 hb2 hF hI hL hcase hgF hlt1
      obtain ⟨⟨b0, b1, b2⟩, -⟩ := T1.out.bw.c3
      generalize hSZ : (1048576 : Nat) = SZ
      have HSZ := Lib.hid hSZ
      clear hSZ
      have HCT := Lib.hid (code_lt k2 HS.out)
      go_wp2_with fail
      refine (spec_l8Code_rd n k1 k2 t HS.out _ _ _ (RdE.below HX.out X.out.bel rfl) (RdE.below HZ.out X.out.bel rfl)).mono ?_; rintro e w3 ⟨rfl, hb3⟩
      replace X := Lib.hid (X.out.call hb3); replace T1 := Lib.hid (T1.out.call hb3); replace R1 := Lib.hid (R1.out.call hb3); replace FB := Lib.hid (FB.out.call hb3)
      clear b0 b1 b2 hb3
      have f0 := FB.out.m.cs _ HCT.out
      have i3 : (codeT n t : Int) < (SZ : Int) := by have := HSZ.out; have := HCT.out; omega
      by_cases hin : ∃ p ∈ Q, p.1 = t
      · obtain ⟨wd0, hP⟩ := LP.start HI.out HL.out hin
        rw [hP.far k1 k2] at f0
        have HP0 := Lib.hid hP
        have i4 : ¬ ((wd0.length + 1 : Nat) : Int) = 0 := by omega
        have HB := Lib.hid X.out.bel
        clear hin hP HI HL HC
        obtain ⟨⟨b0, b1, b2⟩, -⟩ := T1.out.bw.c3
        have K0 := Lib.hid (LS.start T1.out R1.out FB.out off X.out.bel (show RdE w (.slice A xs.length c) E3.cs 3 (pes t.1) ∧ RdE w (.slice A2 zs.length c2) E3.cs 3 (pes t.2) from ⟨HX.out, HZ.out⟩))
        clear HX HZ
        go_wp2_with fail
        obtain ⟨gC, hgC⟩ : ∃ g, w3.heap.size = g := ⟨_, rfl⟩
        rw [hgC] at K0 ⊢
        clear f0 i3 i4 hgC off X T1 R1 FB b0 b1 b2 HB HCT
        generalize (w3.alloc (.cells #[.int .i64 (n : Int), .slice none 0 0] 36)) = w4 at *
        go_loopg [] (wd0.length) (fun f wr => ∃ (x : TT) (pre wd : List Nat) (u0 u1 uG : Value), f = wd.length ∧ Hid (LP n N Q t x pre wd) ∧ Hid (LS n w wr gC gF (farV n Q) x pre u0 u1 uG))
        case atStart => exact ⟨t, [], wd0, _, _, _, rfl, HP0, K0⟩
        case round =>
          clear K0 HP0
          obtain ⟨x, pre, wd, u0, u1, uG, hgk, HP, HK⟩ := hrel
          have HXS := Lib.hid (HP.out.sym k1 k2)
          have HCX := Lib.hid (code_lt k2 HXS.out)
          obtain ⟨r0, r1⟩ := HK.out.rd HXS.out
          obtain ⟨aU0, cU0, rfl, _⟩ := r0.form
          obtain ⟨aU1, cU1, rfl, _⟩ := r1.form
          obtain ⟨aG, cG, rfl⟩ := own_form HK.out.gs
          simp only [pes_len] at r0 r1 HK
          obtain ⟨⟨t0, t1, t2⟩, -⟩ := HK.out.t1.bw.c3
          have HGK := Lib.hid hgk
          clear hgk
          go_wp2_with fail
          refine (spec_l8Code_rd n k1 k2 x HXS.out _ _ _ r0 r1).mono ?_; rintro e w5 ⟨rfl, hb5⟩
          have K5 := Lib.hid (HK.out.call hb5)
          clear HK hb5 r0 r1 t0 t1 t2
          have f0 := K5.out.far.m.cs _ HCX.out
          rw [HP.out.far k1 k2] at f0
          have i3 : (codeT n x : Int) < (SZ : Int) := by have := HSZ.out; have := HCX.out; omega
          cases wd with
          | nil =>
            have HE := Lib.hid (HG.out _ HP.out.end_)
            obtain ⟨⟨c0, c1⟩, -⟩ := K5.out.cb.bw.c2
            obtain ⟨⟨d0, d1⟩, e0, e1⟩ := K5.out.rb.bw.c2
            have fo := K5.out.fo
            have co := K5.out.co
            have hgC : w.heap.size + 1 ≠ gC := by omega
            have R9 := Lib.hid ((K5.out.rb.set 0 (.int .i64 (n : Int))).set 1 (.slice aG pre.length cG))
            have HO := Lib.hid (show OwnE w5 (w.heap.size + 2) 57 (.slice aG pre.length cG) E3.cs 3 (gts n pre) from by
              have h9 := K5.out.gs
              unfold OwnE
              rw [show (gts n pre).length = pre.length from by simp [gts]]; exact h9)
            go_wp2_with fail
            obtain ⟨⟨z0, z1⟩, -⟩ := R9.out.bw.c2
            exact bodyPost_ret (v := .tuple #[.agg #[.int .i64 (n : Int), .slice aG pre.length cG], .bool true]) (by simp [results, Try.results17, go_sem, z0, z1]) rfl (CircPost.some (show r9 = some ⟨(n : Int), gts n pre⟩ from HE.out) (OwnE.le (OwnE.set (OwnE.set HO.out (by dsimp only; omega) _) (by dsimp only; omega) _) (by omega)) (Below.setCell (Below.setCell K5.out.bel (by dsimp only; omega) _) (by dsimp only; omega) _))
          | cons g wq =>
            have hgl := HP.out.lt
            have hlen := HP.out.len
            have i4 : (1 : Int) < (((g :: wq).length + 1 : Nat) : Int) := by simp; omega
            obtain ⟨⟨t0, t1, t2⟩, -⟩ := K5.out.t1.bw.c3
            go_wp2_with fail
            clear t0 t1 t2 f0 i3 i4
            refine (spec_l8Words_any n k1 k2 _).mono ?_; rintro e w7 ⟨aL, cL, rfl, hW, hb7⟩
            have K7 := Lib.hid (K5.out.call hb7)
            have W7 := Lib.hid (own_le hW (base' := 0) (Nat.zero_le _))
            clear K5 hW hb7
            go_wp2_with fail
            obtain ⟨wo, hwo⟩ : ∃ wo : World, wo = wr := ⟨_, rfl⟩
            clear hwo
            go_loopw [41] (fun s41 wy => ∃ j : Nat, s41 = .int .i64 (j : Int) ∧ j ≤ g ∧ Hid (LS n w wy gC gF (farV n Q) x pre (.slice aU0 x.1.length cU0) (.slice aU1 x.2.length cU1) (.slice aG pre.length cG)) ∧ Hid (wy.ownsRow 0 57 3 (.slice aL (KK n) cL) (KK n) ((gls n).flatMap E3.cs))) (fun s41 _ => KK n - (intOf s41).toNat)
            case atStart => exact ⟨0, rfl, Nat.zero_le _, K7, W7⟩
            case round =>
              clear K7 W7
              obtain ⟨j, rfl, hj, HK, HW⟩ := hrel
              have hK6 := KK_le n
              have hlt3 : j < KK n := by omega
              have i3 : (j : Int) < (KK n : Int) := by omega
              obtain ⟨gL, k9, a9, b9, hL9, rfl, gL2, e0, e1, e2⟩ := letter_at HW.out hlt3
              have HL9 := Lib.hid hL9
              clear hL9
              go_wp2_with fail
              have hbA := (show Below wr.heap.size wr (wr.alloc (.cells #[.int .i64 (k9 : Int), .int .i64 (a9 : Int), .int .i64 (b9 : Int)] 57)) from (by repeat (first | exact Below.refl _ _ | assumption | refine Below.drew ?_ | refine below_drewN ?_ _ | refine Below.alloc ?_ (by first | omega | (simp <;> omega)) _ | refine Below.setCell ?_ (by first | omega | (simp <;> omega)) _ | refine Below.trans ?_ (Below.mono (by assumption) (by first | omega | (simp <;> omega))))))
              have K1 := Lib.hid (HK.out.call hbA)
              have W1 := Lib.hid (own_below HW.out hbA rfl)
              have Y7 := Lib.hid (Bw.new wr [.int .i64 (k9 : Int), .int .i64 (a9 : Int), .int .i64 (b9 : Int)] 57 rfl)
              obtain ⟨g7, hg⟩ : ∃ g, wr.heap.size = g := ⟨_, rfl⟩
              rw [hg] at Y7 ⊢
              generalize (wr.alloc (.cells #[.int .i64 (k9 : Int), .int .i64 (a9 : Int), .int .i64 (b9 : Int)] 57)) = wz at *
              clear HK HW e0 e1 e2 gL2 hbA hg i3
              go_cut [8] (fun s8 wx => ∃ (g8 : Nat) (p0 p1 : Value), s8 = .pointer (some ⟨g8, 0, none⟩) ∧ wz.heap.size ≤ g8 ∧ Hid (Tr wx n (bkT n x j) p0 p1) ∧ Hid (Bt wx g8 30 [.int .i64 (n : Int), p0, p1]) ∧ Hid (Below wz.heap.size wz wx))
              case first =>
                have CG := Lib.hid (gateS_tr k1 k2 hlt3 HL9.out)
                have XB := Lib.hid (show Below wz.heap.size wz wz.drew from (by repeat (first | exact Below.refl _ _ | assumption | refine Below.drew ?_ | refine below_drewN ?_ _ | refine Below.alloc ?_ (by first | omega | (simp <;> omega)) _ | refine Below.setCell ?_ (by first | omega | (simp <;> omega)) _ | refine Below.trans ?_ (Below.mono (by assumption) (by first | omega | (simp <;> omega))))))
                obtain ⟨⟨b0, b1, b2⟩, -⟩ := (K1.out.t1.bw.callB XB.out K1.out.t1.bw.lt).c3; obtain ⟨⟨d0, d1, d2⟩, -⟩ := (Y7.out.callB XB.out Y7.out.lt).c3
                refine AnyB.begin (S := (fun w' => w'.cell? ⟨w.heap.size, 0, none⟩ = some (.int .i64 (n : Int)) ∧ w'.cell? ⟨w.heap.size, 1, none⟩ = some (.slice aU0 x.1.length cU0) ∧ w'.cell? ⟨w.heap.size, 2, none⟩ = some (.slice aU1 x.2.length cU1) ∧ w'.cell? ⟨g7, 0, none⟩ = some (.int .i64 (k9 : Int)) ∧ w'.cell? ⟨g7, 1, none⟩ = some (.int .i64 (a9 : Int)) ∧ w'.cell? ⟨g7, 2, none⟩ = some (.int .i64 (b9 : Int)))) [] (by kernel_rfl) ?_ (fun hHeld0 => ?_)
                · ((try dsimp only); (exact ⟨b0, b1, b2, d0, d1, d2⟩))
                refine AnyB.takeQ (i := 0) (oi := _) (v := ?_) (by simp only [List.getElem?_toArray, List.getElem?_cons_zero, List.getElem?_cons_succ]; rfl) (by kernel_rfl) (by kernel_rfl) (by kernel_rfl) (by intro _ _ _ h; exact h) (Or.inl ⟨by rfl, ?_⟩) ?_
                rotate_left
                · (intro w hSw; (try dsimp only at hSw); go_simp; (try (with_reducible rfl)))
                try simp only [Act.put, List.setIfInBounds_toArray, List.set_cons_zero, List.set_cons_succ]
                refine AnyB.take (i := 1) (oi := _) (v := ?_) (by simp only [List.getElem?_toArray, List.getElem?_cons_zero, List.getElem?_cons_succ]; rfl) (by kernel_rfl) (by kernel_rfl) (by kernel_rfl) (by kernel_rfl) (by kernel_rfl) (by intro _ _ _ h; exact h) (Or.inl ⟨by rfl, ?_⟩) (by assumption) ?_
                rotate_left
                · (intro w hSw; (try dsimp only at hSw); go_simp; (try (with_reducible rfl)))
                try simp only [Act.put, List.setIfInBounds_toArray, List.set_cons_zero, List.set_cons_succ]
                refine AnyB.take (i := 2) (oi := _) (v := ?_) (by simp only [List.getElem?_toArray, List.getElem?_cons_zero, List.getElem?_cons_succ]; rfl) (by kernel_rfl) (by kernel_rfl) (by kernel_rfl) (by kernel_rfl) (by kernel_rfl) (by intro _ _ _ h; exact h) (Or.inl ⟨by rfl, ?_⟩) (by assumption) ?_
                rotate_left
                · (intro w hSw; (try dsimp only at hSw); go_simp; (try (with_reducible rfl)))
                try simp only [Act.put, List.setIfInBounds_toArray, List.set_cons_zero, List.set_cons_succ]
                refine AnyB.take (i := 5) (oi := _) (v := ?_) (by simp only [List.getElem?_toArray, List.getElem?_cons_zero, List.getElem?_cons_succ]; rfl) (by kernel_rfl) (by kernel_rfl) (by kernel_rfl) (by kernel_rfl) (by kernel_rfl) (by intro _ _ _ h; exact h) (Or.inl ⟨by rfl, ?_⟩) (by assumption) ?_
                rotate_left
                · (intro w hSw; (try dsimp only at hSw); go_simp; (try (with_reducible rfl)))
                try simp only [Act.put, List.setIfInBounds_toArray, List.set_cons_zero, List.set_cons_succ]
                refine AnyB.each (rs := [3, 7]) (by kernel_rfl) (by simp) ?_
                refine EachB.cons rfl (fun K hK hB => ?_) ?_
                · skip
                  (go_simp; go_at_call 33; refine (CG.out _).mono ?_; rintro e xA ⟨u0, u1, rfl, hu, hxA⟩; replace XB := Lib.hid (Below.trans XB.out (hxA.mono XB.out.size)); have TG := Lib.hid hu; (try (replace BT := Lib.hid (BT.out.call hxA))); clear hu hxA; clear b0 b1 b2 d0 d1 d2; obtain ⟨⟨b0, b1, b2⟩, -⟩ := (K1.out.t1.bw.callB XB.out K1.out.t1.bw.lt).c3; obtain ⟨⟨d0, d1, d2⟩, -⟩ := (Y7.out.callB XB.out Y7.out.lt).c3; dsimp only)
                  refine hK.out _ _ ?_ (fun hHeld1 => ?_)
                  · ((try dsimp only); (exact ⟨b0, b1, b2, d0, d1, d2⟩))
                  clear hB hK K hHeld0
                  refine AnyB.each (rs := [4, 7]) (by kernel_rfl) (by simp) ?_
                  refine EachB.cons rfl (fun K hK hB => ?_) ?_
                  · skip
                    (go_simp; go_at_call 32; refine (invS_tr k1 k2 hlt3 TG.out).mono ?_; rintro e xB ⟨u2, u3, rfl, hu, hxB⟩; replace XB := Lib.hid (Below.trans XB.out (hxB.mono XB.out.size)); have TI := Lib.hid hu; (try (replace BT := Lib.hid (BT.out.call hxB))); clear hu hxB TG; clear b0 b1 b2 d0 d1 d2; obtain ⟨⟨b0, b1, b2⟩, -⟩ := (K1.out.t1.bw.callB XB.out K1.out.t1.bw.lt).c3; obtain ⟨⟨d0, d1, d2⟩, -⟩ := (Y7.out.callB XB.out Y7.out.lt).c3; dsimp only)
                    refine hK.out _ _ ?_ (fun hHeld2 => ?_)
                    · ((try dsimp only); (exact ⟨b0, b1, b2, d0, d1, d2⟩))
                    clear hB hK K hHeld1
                    refine AnyB.each (rs := [6, 7]) (by kernel_rfl) (by simp) ?_
                    refine EachB.cons rfl (fun K hK hB => ?_) ?_
                    · skip
                      (go_simp; go_at_call 31; refine (backS_rd k1 k2 hlt3 HXS.out TI.out ((K1.out.call XB.out).rd HXS.out).1 ((K1.out.call XB.out).rd HXS.out).2).mono ?_; rintro e xC ⟨p0, p1, rfl, hu, hxC⟩; replace XB := Lib.hid (Below.trans XB.out (hxC.mono XB.out.size)); obtain ⟨ap0, cp0, rfl⟩ := own_form hu.rx; obtain ⟨ap1, cp1, rfl⟩ := own_form hu.rz; have TC := Lib.hid hu; (try (replace BT := Lib.hid (BT.out.call hxC))); clear hu hxC TI; clear b0 b1 b2 d0 d1 d2; obtain ⟨⟨b0, b1, b2⟩, -⟩ := (K1.out.t1.bw.callB XB.out K1.out.t1.bw.lt).c3; obtain ⟨⟨d0, d1, d2⟩, -⟩ := (Y7.out.callB XB.out Y7.out.lt).c3; dsimp only)
                      refine hK.out _ _ ?_ (fun hHeld3 => ?_)
                      · ((try dsimp only); (exact ⟨b0, b1, b2, d0, d1, d2⟩))
                      clear hB hK K hHeld2
                      refine AnyB.each (rs := [7]) (by kernel_rfl) (by simp) ?_
                      refine EachB.cons rfl (fun K hK hB => ?_) ?_
                      · skip
                        (go_simp; (first | (obtain ⟨g8, hg8⟩ : ∃ g, xC.heap.size = g := ⟨_, rfl⟩; have hbC := (show Below xC.heap.size xC (xC.alloc (.cells #[.int .i64 0, .slice none 0 0, .slice none 0 0] 30)) from (by repeat (first | exact Below.refl _ _ | assumption | refine Below.drew ?_ | refine below_drewN ?_ _ | refine Below.alloc ?_ (by first | omega | (simp <;> omega)) _ | refine Below.setCell ?_ (by first | omega | (simp <;> omega)) _ | refine Below.trans ?_ (Below.mono (by assumption) (by first | omega | (simp <;> omega)))))); have G8 : wz.heap.size ≤ g8 := (by have := XB.out.size; omega); replace XB := Lib.hid (Below.trans XB.out (hbC.mono XB.out.size)); replace TC := Lib.hid (TC.out.call hbC); have BT := Lib.hid (Bt.new xC [.int .i64 0, .slice none 0 0, .slice none 0 0] 30 hg8); rw [hg8]; generalize xC.alloc (.cells #[.int .i64 0, .slice none 0 0, .slice none 0 0] 30) = xD at *; clear hg8 hbC) | (obtain ⟨g8, hg8⟩ : ∃ g, xB.heap.size = g := ⟨_, rfl⟩; have hbC := (show Below xB.heap.size xB (xB.alloc (.cells #[.int .i64 0, .slice none 0 0, .slice none 0 0] 30)) from (by repeat (first | exact Below.refl _ _ | assumption | refine Below.drew ?_ | refine below_drewN ?_ _ | refine Below.alloc ?_ (by first | omega | (simp <;> omega)) _ | refine Below.setCell ?_ (by first | omega | (simp <;> omega)) _ | refine Below.trans ?_ (Below.mono (by assumption) (by first | omega | (simp <;> omega)))))); have G8 : wz.heap.size ≤ g8 := (by have := XB.out.size; omega); replace XB := Lib.hid (Below.trans XB.out (hbC.mono XB.out.size)); replace TI := Lib.hid (TI.out.call hbC); have BT := Lib.hid (Bt.new xB [.int .i64 0, .slice none 0 0, .slice none 0 0] 30 hg8); rw [hg8]; generalize xB.alloc (.cells #[.int .i64 0, .slice none 0 0, .slice none 0 0] 30) = xD at *; clear hg8 hbC) | (obtain ⟨g8, hg8⟩ : ∃ g, xA.heap.size = g := ⟨_, rfl⟩; have hbC := (show Below xA.heap.size xA (xA.alloc (.cells #[.int .i64 0, .slice none 0 0, .slice none 0 0] 30)) from (by repeat (first | exact Below.refl _ _ | assumption | refine Below.drew ?_ | refine below_drewN ?_ _ | refine Below.alloc ?_ (by first | omega | (simp <;> omega)) _ | refine Below.setCell ?_ (by first | omega | (simp <;> omega)) _ | refine Below.trans ?_ (Below.mono (by assumption) (by first | omega | (simp <;> omega)))))); have G8 : wz.heap.size ≤ g8 := (by have := XB.out.size; omega); replace XB := Lib.hid (Below.trans XB.out (hbC.mono XB.out.size)); replace TG := Lib.hid (TG.out.call hbC); have BT := Lib.hid (Bt.new xA [.int .i64 0, .slice none 0 0, .slice none 0 0] 30 hg8); rw [hg8]; generalize xA.alloc (.cells #[.int .i64 0, .slice none 0 0, .slice none 0 0] 30) = xD at *; clear hg8 hbC) | (obtain ⟨g8, hg8⟩ : ∃ g, wz.heap.size = g := ⟨_, rfl⟩; have G8 : wz.heap.size ≤ g8 := (by omega); replace XB := Lib.hid (show Below wz.heap.size wz ((wz.alloc (.cells #[.int .i64 0, .slice none 0 0, .slice none 0 0] 30)).drew) from (by repeat (first | exact Below.refl _ _ | assumption | refine Below.drew ?_ | refine below_drewN ?_ _ | refine Below.alloc ?_ (by first | omega | (simp <;> omega)) _ | refine Below.setCell ?_ (by first | omega | (simp <;> omega)) _ | refine Below.trans ?_ (Below.mono (by assumption) (by first | omega | (simp <;> omega)))))); have BT := Lib.hid ((Bt.new wz [.int .i64 0, .slice none 0 0, .slice none 0 0] 30 hg8).drew); rw [hg8]; generalize (wz.alloc (.cells #[.int .i64 0, .slice none 0 0, .slice none 0 0] 30)).drew = xD at *; clear hg8)); clear b0 b1 b2 d0 d1 d2; obtain ⟨⟨b0, b1, b2⟩, -⟩ := (K1.out.t1.bw.callB XB.out K1.out.t1.bw.lt).c3; obtain ⟨⟨d0, d1, d2⟩, -⟩ := (Y7.out.callB XB.out Y7.out.lt).c3)
                        refine hK.out _ _ ?_ (fun hHeld4 => ?_)
                        · ((try dsimp only); (exact ⟨b0, b1, b2, d0, d1, d2⟩))
                        clear hB hK K hHeld3
                        refine AnyB.each (rs := [8]) (by kernel_rfl) (by simp) ?_
                        refine EachB.cons rfl (fun K hK hB => ?_) ?_
                        · skip
                          (obtain ⟨⟨y0, y1, y2⟩, q0', q1', q2'⟩ := BT.out.bw.c3; go_simp; clear y0 y1 y2 q0' q1' q2'; obtain ⟨TCn, BTn, XBn⟩ := store_tr TC.out BT.out XB.out G8; (try dsimp only at TCn BTn XBn); replace TC := Lib.hid TCn; replace BT := Lib.hid BTn; replace XB := Lib.hid XBn; clear TCn BTn XBn; clear b0 b1 b2 d0 d1 d2; obtain ⟨⟨b0, b1, b2⟩, -⟩ := (K1.out.t1.bw.callB XB.out K1.out.t1.bw.lt).c3; obtain ⟨⟨d0, d1, d2⟩, -⟩ := (Y7.out.callB XB.out Y7.out.lt).c3)
                          refine hK.out _ _ ?_ (fun hHeld5 => ?_)
                          · ((try dsimp only); (exact ⟨b0, b1, b2, d0, d1, d2⟩))
                          clear hB hK K hHeld4
                          refine AnyB.none (by kernel_rfl) ?_ _
                          go_wp2_with fail
                          go_meet
                          exact ⟨g8, _, _, rfl, G8, TC, BT, XB⟩
                        exact EachB.nil
                      exact EachB.nil
                    refine EachB.cons rfl (fun K hK hB => ?_) ?_
                    · skip
                      (go_simp; (first | (obtain ⟨g8, hg8⟩ : ∃ g, xC.heap.size = g := ⟨_, rfl⟩; have hbC := (show Below xC.heap.size xC (xC.alloc (.cells #[.int .i64 0, .slice none 0 0, .slice none 0 0] 30)) from (by repeat (first | exact Below.refl _ _ | assumption | refine Below.drew ?_ | refine below_drewN ?_ _ | refine Below.alloc ?_ (by first | omega | (simp <;> omega)) _ | refine Below.setCell ?_ (by first | omega | (simp <;> omega)) _ | refine Below.trans ?_ (Below.mono (by assumption) (by first | omega | (simp <;> omega)))))); have G8 : wz.heap.size ≤ g8 := (by have := XB.out.size; omega); replace XB := Lib.hid (Below.trans XB.out (hbC.mono XB.out.size)); replace TC := Lib.hid (TC.out.call hbC); have BT := Lib.hid (Bt.new xC [.int .i64 0, .slice none 0 0, .slice none 0 0] 30 hg8); rw [hg8]; generalize xC.alloc (.cells #[.int .i64 0, .slice none 0 0, .slice none 0 0] 30) = xD at *; clear hg8 hbC) | (obtain ⟨g8, hg8⟩ : ∃ g, xB.heap.size = g := ⟨_, rfl⟩; have hbC := (show Below xB.heap.size xB (xB.alloc (.cells #[.int .i64 0, .slice none 0 0, .slice none 0 0] 30)) from (by repeat (first | exact Below.refl _ _ | assumption | refine Below.drew ?_ | refine below_drewN ?_ _ | refine Below.alloc ?_ (by first | omega | (simp <;> omega)) _ | refine Below.setCell ?_ (by first | omega | (simp <;> omega)) _ | refine Below.trans ?_ (Below.mono (by assumption) (by first | omega | (simp <;> omega)))))); have G8 : wz.heap.size ≤ g8 := (by have := XB.out.size; omega); replace XB := Lib.hid (Below.trans XB.out (hbC.mono XB.out.size)); replace TI := Lib.hid (TI.out.call hbC); have BT := Lib.hid (Bt.new xB [.int .i64 0, .slice none 0 0, .slice none 0 0] 30 hg8); rw [hg8]; generalize xB.alloc (.cells #[.int .i64 0, .slice none 0 0, .slice none 0 0] 30) = xD at *; clear hg8 hbC) | (obtain ⟨g8, hg8⟩ : ∃ g, xA.heap.size = g := ⟨_, rfl⟩; have hbC := (show Below xA.heap.size xA (xA.alloc (.cells #[.int .i64 0, .slice none 0 0, .slice none 0 0] 30)) from (by repeat (first | exact Below.refl _ _ | assumption | refine Below.drew ?_ | refine below_drewN ?_ _ | refine Below.alloc ?_ (by first | omega | (simp <;> omega)) _ | refine Below.setCell ?_ (by first | omega | (simp <;> omega)) _ | refine Below.trans ?_ (Below.mono (by assumption) (by first | omega | (simp <;> omega)))))); have G8 : wz.heap.size ≤ g8 := (by have := XB.out.size; omega); replace XB := Lib.hid (Below.trans XB.out (hbC.mono XB.out.size)); replace TG := Lib.hid (TG.out.call hbC); have BT := Lib.hid (Bt.new xA [.int .i64 0, .slice none 0 0, .slice none 0 0] 30 hg8); rw [hg8]; generalize xA.alloc (.cells #[.int .i64 0, .slice none 0 0, .slice none 0 0] 30) = xD at *; clear hg8 hbC) | (obtain ⟨g8, hg8⟩ : ∃ g, wz.heap.size = g := ⟨_, rfl⟩; have G8 : wz.heap.size ≤ g8 := (by omega); replace XB := Lib.hid (show Below wz.heap.size wz ((wz.alloc (.cells #[.int .i64 0, .slice none 0 0, .slice none 0 0] 30)).drew) from (by repeat (first | exact Below.refl _ _ | assumption | refine Below.drew ?_ | refine below_drewN ?_ _ | refine Below.alloc ?_ (by first | omega | (simp <;> omega)) _ | refine Below.setCell ?_ (by first | omega | (simp <;> omega)) _ | refine Below.trans ?_ (Below.mono (by assumption) (by first | omega | (simp <;> omega)))))); have BT := Lib.hid ((Bt.new wz [.int .i64 0, .slice none 0 0, .slice none 0 0] 30 hg8).drew); rw [hg8]; generalize (wz.alloc (.cells #[.int .i64 0, .slice none 0 0, .slice none 0 0] 30)).drew = xD at *; clear hg8)); clear b0 b1 b2 d0 d1 d2; obtain ⟨⟨b0, b1, b2⟩, -⟩ := (K1.out.t1.bw.callB XB.out K1.out.t1.bw.lt).c3; obtain ⟨⟨d0, d1, d2⟩, -⟩ := (Y7.out.callB XB.out Y7.out.lt).c3)
                      refine hK.out _ _ ?_ (fun hHeld6 => ?_)
                      · ((try dsimp only); (exact ⟨b0, b1, b2, d0, d1, d2⟩))
                      clear hB hK K hHeld2
                      refine AnyB.each (rs := [6]) (by kernel_rfl) (by simp) ?_
                      refine EachB.cons rfl (fun K hK hB => ?_) ?_
                      · skip
                        (go_simp; go_at_call 31; refine (backS_rd k1 k2 hlt3 HXS.out TI.out ((K1.out.call XB.out).rd HXS.out).1 ((K1.out.call XB.out).rd HXS.out).2).mono ?_; rintro e xC ⟨p0, p1, rfl, hu, hxC⟩; replace XB := Lib.hid (Below.trans XB.out (hxC.mono XB.out.size)); obtain ⟨ap0, cp0, rfl⟩ := own_form hu.rx; obtain ⟨ap1, cp1, rfl⟩ := own_form hu.rz; have TC := Lib.hid hu; (try (replace BT := Lib.hid (BT.out.call hxC))); clear hu hxC TI; clear b0 b1 b2 d0 d1 d2; obtain ⟨⟨b0, b1, b2⟩, -⟩ := (K1.out.t1.bw.callB XB.out K1.out.t1.bw.lt).c3; obtain ⟨⟨d0, d1, d2⟩, -⟩ := (Y7.out.callB XB.out Y7.out.lt).c3; dsimp only)
                        refine hK.out _ _ ?_ (fun hHeld7 => ?_)
                        · ((try dsimp only); (exact ⟨b0, b1, b2, d0, d1, d2⟩))
                        clear hB hK K hHeld6
                        refine AnyB.each (rs := [8]) (by kernel_rfl) (by simp) ?_
                        refine EachB.cons rfl (fun K hK hB => ?_) ?_
                        · skip
                          (obtain ⟨⟨y0, y1, y2⟩, q0', q1', q2'⟩ := BT.out.bw.c3; go_simp; clear y0 y1 y2 q0' q1' q2'; obtain ⟨TCn, BTn, XBn⟩ := store_tr TC.out BT.out XB.out G8; (try dsimp only at TCn BTn XBn); replace TC := Lib.hid TCn; replace BT := Lib.hid BTn; replace XB := Lib.hid XBn; clear TCn BTn XBn; clear b0 b1 b2 d0 d1 d2; obtain ⟨⟨b0, b1, b2⟩, -⟩ := (K1.out.t1.bw.callB XB.out K1.out.t1.bw.lt).c3; obtain ⟨⟨d0, d1, d2⟩, -⟩ := (Y7.out.callB XB.out Y7.out.lt).c3)
                          refine hK.out _ _ ?_ (fun hHeld8 => ?_)
                          · ((try dsimp only); (exact ⟨b0, b1, b2, d0, d1, d2⟩))
                          clear hB hK K hHeld7
                          refine AnyB.none (by kernel_rfl) ?_ _
                          go_wp2_with fail
                          go_meet
                          exact ⟨g8, _, _, rfl, G8, TC, BT, XB⟩
                        exact EachB.nil
                      exact EachB.nil
                    exact EachB.nil
                  refine EachB.cons rfl (fun K hK hB => ?_) ?_
                  · skip
                    (go_simp; (first | (obtain ⟨g8, hg8⟩ : ∃ g, xC.heap.size = g := ⟨_, rfl⟩; have hbC := (show Below xC.heap.size xC (xC.alloc (.cells #[.int .i64 0, .slice none 0 0, .slice none 0 0] 30)) from (by repeat (first | exact Below.refl _ _ | assumption | refine Below.drew ?_ | refine below_drewN ?_ _ | refine Below.alloc ?_ (by first | omega | (simp <;> omega)) _ | refine Below.setCell ?_ (by first | omega | (simp <;> omega)) _ | refine Below.trans ?_ (Below.mono (by assumption) (by first | omega | (simp <;> omega)))))); have G8 : wz.heap.size ≤ g8 := (by have := XB.out.size; omega); replace XB := Lib.hid (Below.trans XB.out (hbC.mono XB.out.size)); replace TC := Lib.hid (TC.out.call hbC); have BT := Lib.hid (Bt.new xC [.int .i64 0, .slice none 0 0, .slice none 0 0] 30 hg8); rw [hg8]; generalize xC.alloc (.cells #[.int .i64 0, .slice none 0 0, .slice none 0 0] 30) = xD at *; clear hg8 hbC) | (obtain ⟨g8, hg8⟩ : ∃ g, xB.heap.size = g := ⟨_, rfl⟩; have hbC := (show Below xB.heap.size xB (xB.alloc (.cells #[.int .i64 0, .slice none 0 0, .slice none 0 0] 30)) from (by repeat (first | exact Below.refl _ _ | assumption | refine Below.drew ?_ | refine below_drewN ?_ _ | refine Below.alloc ?_ (by first | omega | (simp <;> omega)) _ | refine Below.setCell ?_ (by first | omega | (simp <;> omega)) _ | refine Below.trans ?_ (Below.mono (by assumption) (by first | omega | (simp <;> omega)))))); have G8 : wz.heap.size ≤ g8 := (by have := XB.out.size; omega); replace XB := Lib.hid (Below.trans XB.out (hbC.mono XB.out.size)); replace TI := Lib.hid (TI.out.call hbC); have BT := Lib.hid (Bt.new xB [.int .i64 0, .slice none 0 0, .slice none 0 0] 30 hg8); rw [hg8]; generalize xB.alloc (.cells #[.int .i64 0, .slice none 0 0, .slice none 0 0] 30) = xD at *; clear hg8 hbC) | (obtain ⟨g8, hg8⟩ : ∃ g, xA.heap.size = g := ⟨_, rfl⟩; have hbC := (show Below xA.heap.size xA (xA.alloc (.cells #[.int .i64 0, .slice none 0 0, .slice none 0 0] 30)) from (by repeat (first | exact Below.refl _ _ | assumption | refine Below.drew ?_ | refine below_drewN ?_ _ | refine Below.alloc ?_ (by first | omega | (simp <;> omega)) _ | refine Below.setCell ?_ (by first | omega | (simp <;> omega)) _ | refine Below.trans ?_ (Below.mono (by assumption) (by first | omega | (simp <;> omega)))))); have G8 : wz.heap.size ≤ g8 := (by have := XB.out.size; omega); replace XB := Lib.hid (Below.trans XB.out (hbC.mono XB.out.size)); replace TG := Lib.hid (TG.out.call hbC); have BT := Lib.hid (Bt.new xA [.int .i64 0, .slice none 0 0, .slice none 0 0] 30 hg8); rw [hg8]; generalize xA.alloc (.cells #[.int .i64 0, .slice none 0 0, .slice none 0 0] 30) = xD at *; clear hg8 hbC) | (obtain ⟨g8, hg8⟩ : ∃ g, wz.heap.size = g := ⟨_, rfl⟩; have G8 : wz.heap.size ≤ g8 := (by omega); replace XB := Lib.hid (show Below wz.heap.size wz ((wz.alloc (.cells #[.int .i64 0, .slice none 0 0, .slice none 0 0] 30)).drew) from (by repeat (first | exact Below.refl _ _ | assumption | refine Below.drew ?_ | refine below_drewN ?_ _ | refine Below.alloc ?_ (by first | omega | (simp <;> omega)) _ | refine Below.setCell ?_ (by first | omega | (simp <;> omega)) _ | refine Below.trans ?_ (Below.mono (by assumption) (by first | omega | (simp <;> omega)))))); have BT := Lib.hid ((Bt.new wz [.int .i64 0, .slice none 0 0, .slice none 0 0] 30 hg8).drew); rw [hg8]; generalize (wz.alloc (.cells #[.int .i64 0, .slice none 0 0, .slice none 0 0] 30)).drew = xD at *; clear hg8)); clear b0 b1 b2 d0 d1 d2; obtain ⟨⟨b0, b1, b2⟩, -⟩ := (K1.out.t1.bw.callB XB.out K1.out.t1.bw.lt).c3; obtain ⟨⟨d0, d1, d2⟩, -⟩ := (Y7.out.callB XB.out Y7.out.lt).c3)
                    refine hK.out _ _ ?_ (fun hHeld9 => ?_)
                    · ((try dsimp only); (exact ⟨b0, b1, b2, d0, d1, d2⟩))
                    clear hB hK K hHeld1
                    refine AnyB.each (rs := [4]) (by kernel_rfl) (by simp) ?_
                    refine EachB.cons rfl (fun K hK hB => ?_) ?_
                    · skip
                      (go_simp; go_at_call 32; refine (invS_tr k1 k2 hlt3 TG.out).mono ?_; rintro e xB ⟨u2, u3, rfl, hu, hxB⟩; replace XB := Lib.hid (Below.trans XB.out (hxB.mono XB.out.size)); have TI := Lib.hid hu; (try (replace BT := Lib.hid (BT.out.call hxB))); clear hu hxB TG; clear b0 b1 b2 d0 d1 d2; obtain ⟨⟨b0, b1, b2⟩, -⟩ := (K1.out.t1.bw.callB XB.out K1.out.t1.bw.lt).c3; obtain ⟨⟨d0, d1, d2⟩, -⟩ := (Y7.out.callB XB.out Y7.out.lt).c3; dsimp only)
                      refine hK.out _ _ ?_ (fun hHeld10 => ?_)
                      · ((try dsimp only); (exact ⟨b0, b1, b2, d0, d1, d2⟩))
                      clear hB hK K hHeld9
                      refine AnyB.each (rs := [6]) (by kernel_rfl) (by simp) ?_
                      refine EachB.cons rfl (fun K hK hB => ?_) ?_
                      · skip
                        (go_simp; go_at_call 31; refine (backS_rd k1 k2 hlt3 HXS.out TI.out ((K1.out.call XB.out).rd HXS.out).1 ((K1.out.call XB.out).rd HXS.out).2).mono ?_; rintro e xC ⟨p0, p1, rfl, hu, hxC⟩; replace XB := Lib.hid (Below.trans XB.out (hxC.mono XB.out.size)); obtain ⟨ap0, cp0, rfl⟩ := own_form hu.rx; obtain ⟨ap1, cp1, rfl⟩ := own_form hu.rz; have TC := Lib.hid hu; (try (replace BT := Lib.hid (BT.out.call hxC))); clear hu hxC TI; clear b0 b1 b2 d0 d1 d2; obtain ⟨⟨b0, b1, b2⟩, -⟩ := (K1.out.t1.bw.callB XB.out K1.out.t1.bw.lt).c3; obtain ⟨⟨d0, d1, d2⟩, -⟩ := (Y7.out.callB XB.out Y7.out.lt).c3; dsimp only)
                        refine hK.out _ _ ?_ (fun hHeld11 => ?_)
                        · ((try dsimp only); (exact ⟨b0, b1, b2, d0, d1, d2⟩))
                        clear hB hK K hHeld10
                        refine AnyB.each (rs := [8]) (by kernel_rfl) (by simp) ?_
                        refine EachB.cons rfl (fun K hK hB => ?_) ?_
                        · skip
                          (obtain ⟨⟨y0, y1, y2⟩, q0', q1', q2'⟩ := BT.out.bw.c3; go_simp; clear y0 y1 y2 q0' q1' q2'; obtain ⟨TCn, BTn, XBn⟩ := store_tr TC.out BT.out XB.out G8; (try dsimp only at TCn BTn XBn); replace TC := Lib.hid TCn; replace BT := Lib.hid BTn; replace XB := Lib.hid XBn; clear TCn BTn XBn; clear b0 b1 b2 d0 d1 d2; obtain ⟨⟨b0, b1, b2⟩, -⟩ := (K1.out.t1.bw.callB XB.out K1.out.t1.bw.lt).c3; obtain ⟨⟨d0, d1, d2⟩, -⟩ := (Y7.out.callB XB.out Y7.out.lt).c3)
                          refine hK.out _ _ ?_ (fun hHeld12 => ?_)
                          · ((try dsimp only); (exact ⟨b0, b1, b2, d0, d1, d2⟩))
                          clear hB hK K hHeld11
                          refine AnyB.none (by kernel_rfl) ?_ _
                          go_wp2_with fail
                          go_meet
                          exact ⟨g8, _, _, rfl, G8, TC, BT, XB⟩
                        exact EachB.nil
                      exact EachB.nil
                    exact EachB.nil
                  exact EachB.nil
                refine EachB.cons rfl (fun K hK hB => ?_) ?_
                · skip
                  (go_simp; (first | (obtain ⟨g8, hg8⟩ : ∃ g, xC.heap.size = g := ⟨_, rfl⟩; have hbC := (show Below xC.heap.size xC (xC.alloc (.cells #[.int .i64 0, .slice none 0 0, .slice none 0 0] 30)) from (by repeat (first | exact Below.refl _ _ | assumption | refine Below.drew ?_ | refine below_drewN ?_ _ | refine Below.alloc ?_ (by first | omega | (simp <;> omega)) _ | refine Below.setCell ?_ (by first | omega | (simp <;> omega)) _ | refine Below.trans ?_ (Below.mono (by assumption) (by first | omega | (simp <;> omega)))))); have G8 : wz.heap.size ≤ g8 := (by have := XB.out.size; omega); replace XB := Lib.hid (Below.trans XB.out (hbC.mono XB.out.size)); replace TC := Lib.hid (TC.out.call hbC); have BT := Lib.hid (Bt.new xC [.int .i64 0, .slice none 0 0, .slice none 0 0] 30 hg8); rw [hg8]; generalize xC.alloc (.cells #[.int .i64 0, .slice none 0 0, .slice none 0 0] 30) = xD at *; clear hg8 hbC) | (obtain ⟨g8, hg8⟩ : ∃ g, xB.heap.size = g := ⟨_, rfl⟩; have hbC := (show Below xB.heap.size xB (xB.alloc (.cells #[.int .i64 0, .slice none 0 0, .slice none 0 0] 30)) from (by repeat (first | exact Below.refl _ _ | assumption | refine Below.drew ?_ | refine below_drewN ?_ _ | refine Below.alloc ?_ (by first | omega | (simp <;> omega)) _ | refine Below.setCell ?_ (by first | omega | (simp <;> omega)) _ | refine Below.trans ?_ (Below.mono (by assumption) (by first | omega | (simp <;> omega)))))); have G8 : wz.heap.size ≤ g8 := (by have := XB.out.size; omega); replace XB := Lib.hid (Below.trans XB.out (hbC.mono XB.out.size)); replace TI := Lib.hid (TI.out.call hbC); have BT := Lib.hid (Bt.new xB [.int .i64 0, .slice none 0 0, .slice none 0 0] 30 hg8); rw [hg8]; generalize xB.alloc (.cells #[.int .i64 0, .slice none 0 0, .slice none 0 0] 30) = xD at *; clear hg8 hbC) | (obtain ⟨g8, hg8⟩ : ∃ g, xA.heap.size = g := ⟨_, rfl⟩; have hbC := (show Below xA.heap.size xA (xA.alloc (.cells #[.int .i64 0, .slice none 0 0, .slice none 0 0] 30)) from (by repeat (first | exact Below.refl _ _ | assumption | refine Below.drew ?_ | refine below_drewN ?_ _ | refine Below.alloc ?_ (by first | omega | (simp <;> omega)) _ | refine Below.setCell ?_ (by first | omega | (simp <;> omega)) _ | refine Below.trans ?_ (Below.mono (by assumption) (by first | omega | (simp <;> omega)))))); have G8 : wz.heap.size ≤ g8 := (by have := XB.out.size; omega); replace XB := Lib.hid (Below.trans XB.out (hbC.mono XB.out.size)); replace TG := Lib.hid (TG.out.call hbC); have BT := Lib.hid (Bt.new xA [.int .i64 0, .slice none 0 0, .slice none 0 0] 30 hg8); rw [hg8]; generalize xA.alloc (.cells #[.int .i64 0, .slice none 0 0, .slice none 0 0] 30) = xD at *; clear hg8 hbC) | (obtain ⟨g8, hg8⟩ : ∃ g, wz.heap.size = g := ⟨_, rfl⟩; have G8 : wz.heap.size ≤ g8 := (by omega); replace XB := Lib.hid (show Below wz.heap.size wz ((wz.alloc (.cells #[.int .i64 0, .slice none 0 0, .slice none 0 0] 30)).drew) from (by repeat (first | exact Below.refl _ _ | assumption | refine Below.drew ?_ | refine below_drewN ?_ _ | refine Below.alloc ?_ (by first | omega | (simp <;> omega)) _ | refine Below.setCell ?_ (by first | omega | (simp <;> omega)) _ | refine Below.trans ?_ (Below.mono (by assumption) (by first | omega | (simp <;> omega)))))); have BT := Lib.hid ((Bt.new wz [.int .i64 0, .slice none 0 0, .slice none 0 0] 30 hg8).drew); rw [hg8]; generalize (wz.alloc (.cells #[.int .i64 0, .slice none 0 0, .slice none 0 0] 30)).drew = xD at *; clear hg8)); clear b0 b1 b2 d0 d1 d2; obtain ⟨⟨b0, b1, b2⟩, -⟩ := (K1.out.t1.bw.callB XB.out K1.out.t1.bw.lt).c3; obtain ⟨⟨d0, d1, d2⟩, -⟩ := (Y7.out.callB XB.out Y7.out.lt).c3)
                  refine hK.out _ _ ?_ (fun hHeld13 => ?_)
                  · ((try dsimp only); (exact ⟨b0, b1, b2, d0, d1, d2⟩))
                  clear hB hK K hHeld0
                  refine AnyB.each (rs := [3]) (by kernel_rfl) (by simp) ?_
                  refine EachB.cons rfl (fun K hK hB => ?_) ?_
                  · skip
                    (go_simp; go_at_call 33; refine (CG.out _).mono ?_; rintro e xA ⟨u0, u1, rfl, hu, hxA⟩; replace XB := Lib.hid (Below.trans XB.out (hxA.mono XB.out.size)); have TG := Lib.hid hu; (try (replace BT := Lib.hid (BT.out.call hxA))); clear hu hxA; clear b0 b1 b2 d0 d1 d2; obtain ⟨⟨b0, b1, b2⟩, -⟩ := (K1.out.t1.bw.callB XB.out K1.out.t1.bw.lt).c3; obtain ⟨⟨d0, d1, d2⟩, -⟩ := (Y7.out.callB XB.out Y7.out.lt).c3; dsimp only)
                    refine hK.out _ _ ?_ (fun hHeld14 => ?_)
                    · ((try dsimp only); (exact ⟨b0, b1, b2, d0, d1, d2⟩))
                    clear hB hK K hHeld13
                    refine AnyB.each (rs := [4]) (by kernel_rfl) (by simp) ?_
                    refine EachB.cons rfl (fun K hK hB => ?_) ?_
                    · skip
                      (go_simp; go_at_call 32; refine (invS_tr k1 k2 hlt3 TG.out).mono ?_; rintro e xB ⟨u2, u3, rfl, hu, hxB⟩; replace XB := Lib.hid (Below.trans XB.out (hxB.mono XB.out.size)); have TI := Lib.hid hu; (try (replace BT := Lib.hid (BT.out.call hxB))); clear hu hxB TG; clear b0 b1 b2 d0 d1 d2; obtain ⟨⟨b0, b1, b2⟩, -⟩ := (K1.out.t1.bw.callB XB.out K1.out.t1.bw.lt).c3; obtain ⟨⟨d0, d1, d2⟩, -⟩ := (Y7.out.callB XB.out Y7.out.lt).c3; dsimp only)
                      refine hK.out _ _ ?_ (fun hHeld15 => ?_)
                      · ((try dsimp only); (exact ⟨b0, b1, b2, d0, d1, d2⟩))
                      clear hB hK K hHeld14
                      refine AnyB.each (rs := [6]) (by kernel_rfl) (by simp) ?_
                      refine EachB.cons rfl (fun K hK hB => ?_) ?_
                      · skip
                        (go_simp; go_at_call 31; refine (backS_rd k1 k2 hlt3 HXS.out TI.out ((K1.out.call XB.out).rd HXS.out).1 ((K1.out.call XB.out).rd HXS.out).2).mono ?_; rintro e xC ⟨p0, p1, rfl, hu, hxC⟩; replace XB := Lib.hid (Below.trans XB.out (hxC.mono XB.out.size)); obtain ⟨ap0, cp0, rfl⟩ := own_form hu.rx; obtain ⟨ap1, cp1, rfl⟩ := own_form hu.rz; have TC := Lib.hid hu; (try (replace BT := Lib.hid (BT.out.call hxC))); clear hu hxC TI; clear b0 b1 b2 d0 d1 d2; obtain ⟨⟨b0, b1, b2⟩, -⟩ := (K1.out.t1.bw.callB XB.out K1.out.t1.bw.lt).c3; obtain ⟨⟨d0, d1, d2⟩, -⟩ := (Y7.out.callB XB.out Y7.out.lt).c3; dsimp only)
                        refine hK.out _ _ ?_ (fun hHeld16 => ?_)
                        · ((try dsimp only); (exact ⟨b0, b1, b2, d0, d1, d2⟩))
                        clear hB hK K hHeld15
                        refine AnyB.each (rs := [8]) (by kernel_rfl) (by simp) ?_
                        refine EachB.cons rfl (fun K hK hB => ?_) ?_
                        · skip
                          (obtain ⟨⟨y0, y1, y2⟩, q0', q1', q2'⟩ := BT.out.bw.c3; go_simp; clear y0 y1 y2 q0' q1' q2'; obtain ⟨TCn, BTn, XBn⟩ := store_tr TC.out BT.out XB.out G8; (try dsimp only at TCn BTn XBn); replace TC := Lib.hid TCn; replace BT := Lib.hid BTn; replace XB := Lib.hid XBn; clear TCn BTn XBn; clear b0 b1 b2 d0 d1 d2; obtain ⟨⟨b0, b1, b2⟩, -⟩ := (K1.out.t1.bw.callB XB.out K1.out.t1.bw.lt).c3; obtain ⟨⟨d0, d1, d2⟩, -⟩ := (Y7.out.callB XB.out Y7.out.lt).c3)
                          refine hK.out _ _ ?_ (fun hHeld17 => ?_)
                          · ((try dsimp only); (exact ⟨b0, b1, b2, d0, d1, d2⟩))
                          clear hB hK K hHeld16
                          refine AnyB.none (by kernel_rfl) ?_ _
                          go_wp2_with fail
                          go_meet
                          exact ⟨g8, _, _, rfl, G8, TC, BT, XB⟩
                        exact EachB.nil
                      exact EachB.nil
                    exact EachB.nil
                  exact EachB.nil
                exact EachB.nil
              case rest =>
                obtain ⟨g8, p0, p1, rfl, G8, TC, BT, XB⟩ := hcut
                have K2 := Lib.hid (K1.out.call XB.out)
                have W2 := Lib.hid (own_below W1.out XB.out rfl)
                have Y8 := Lib.hid (Y7.out.callB XB.out Y7.out.lt)
                obtain ⟨ap0, cp0, rfl⟩ := own_form TC.out.rx
                obtain ⟨ap1, cp1, rfl⟩ := own_form TC.out.rz
                have HSB := Lib.hid (back_sym k1 k2 hlt3 HXS.out)
                have HCB := Lib.hid (code_lt k2 HSB.out)
                have G8C : g8 ≠ gC := by have := K1.out.cb.bw.lt; omega
                have G8W : g8 ≠ w.heap.size := by have := K1.out.t1.bw.lt; omega
                clear K1 W1 Y7 XB G8
                obtain ⟨⟨y0, y1, y2⟩, -⟩ := BT.out.bw.c3
                go_wp2_with fail
                clear y0 y1 y2
                refine (spec_l8Code_any n k1 k2 _ HSB.out _ _ _ TC.out).mono ?_; rintro e w9 ⟨rfl, hb9⟩
                replace K2 := Lib.hid (K2.out.call hb9); replace W2 := Lib.hid (own_below W2.out hb9 rfl); replace TC := Lib.hid (TC.out.call hb9); replace BT := Lib.hid (BT.out.call hb9); replace Y8 := Lib.hid (Y8.out.call hb9)
                clear hb9
                have f1 := K2.out.far.m.cs _ HCB.out
                have i5 : (codeT n (bkT n x j) : Int) < (SZ : Int) := by have := HSZ.out; have := HCB.out; omega
                have i6 : (codeT n x : Int) < (SZ : Int) := by have := HSZ.out; have := HCX.out; omega
                obtain ⟨r0, r1⟩ := K2.out.rd HXS.out
                obtain ⟨⟨t0, t1, t2⟩, -⟩ := K2.out.t1.bw.c3
                by_cases hjg : j = g
                · subst hjg
                  have HP2 := Lib.hid (HP.out.hit k1 k2)
                  rw [HP2.out.far k1 k2] at f1
                  have i7 : (0 : Int) < ((wq.length + 1 : Nat) : Int) := by omega
                  go_wp2_with fail
                  clear t0 t1 t2 f1 i7
                  refine (spec_l8Code_rd n k1 k2 x HXS.out _ _ _ r0 r1).mono ?_; rintro e wa ⟨rfl, hba⟩
                  have K3 := Lib.hid (K2.out.call hba); replace TC := Lib.hid (TC.out.call hba); replace BT := Lib.hid (BT.out.call hba); replace Y8 := Lib.hid (Y8.out.call hba)
                  clear hba K2 W2 r0 r1 i5
                  have f0 := K3.out.far.m.cs _ HCX.out
                  rw [HP.out.far k1 k2] at f0
                  have i8 : ((wq.length + 1 : Nat) : Int) < (((j :: wq).length + 1 : Nat) : Int) := by simp; omega
                  have hbX := Lib.hid (show Below wa.heap.size wa (wa.alloc (.cells #[.int .i64 (k9 : Int), .int .i64 (a9 : Int), .int .i64 (b9 : Int)] 57)) from (by repeat (first | exact Below.refl _ _ | assumption | refine Below.drew ?_ | refine below_drewN ?_ _ | refine Below.alloc ?_ (by first | omega | (simp <;> omega)) _ | refine Below.setCell ?_ (by first | omega | (simp <;> omega)) _ | refine Below.trans ?_ (Below.mono (by assumption) (by first | omega | (simp <;> omega))))))
                  have K6 := Lib.hid (K3.out.call hbX.out)
                  have TC6 := Lib.hid (TC.out.call hbX.out)
                  have BT6 := Lib.hid (BT.out.call hbX.out)
                  have hwz := K3.out.bel.size
                  have hw1 := K3.out.rb.bw.lt
                  have g3 : w.heap.size + 2 ≤ (wa.alloc (.cells #[.int .i64 (k9 : Int), .int .i64 (a9 : Int), .int .i64 (b9 : Int)] 57)).heap.size := by simp; omega
                  have g1 : pre.length + 1 ≤ maxLen := by unfold maxLen; omega
                  have g2 : (pre.length + 1) * 24 ≤ 140737488355328 := by omega
                  have g5 := reads_news wa [.int .i64 (k9 : Int), .int .i64 (a9 : Int), .int .i64 (b9 : Int)] 57 3 1 rfl
                  have g6 : ∀ u ∈ [Value.int .i64 (k9 : Int), .int .i64 (a9 : Int), .int .i64 (b9 : Int)], u.oneCell' = true := fun u hu => by simp at hu; rcases hu with rfl | rfl | rfl <;> rfl
                  obtain ⟨⟨d0, d1, d2⟩, -⟩ := Y8.out.c3
                  obtain ⟨⟨c0, c1⟩, -⟩ := K3.out.cb.bw.c2
                  clear hwz hw1 TC BT
                  go_wp2_with (at_builtin; go_loud (refine wpList_append_any _ rfl (.tmp 69) (.tmp 71) 34 rfl (w.heap.size + 2) 57 i0 (.agg #[.int .i64 0, .int .i64 0, .int .i64 0]) 3 24 Try.underlying34 hi hz0 hz1 hz2 rfl (by decide) (.slice aG pre.length cG) pre.length ((gts n pre).flatMap E3.cs) ?hs ?ho (wa.heap.size + 1) (some ⟨wa.heap.size, 0, none⟩) 1 1 [.int .i64 (k9 : Int), .int .i64 (a9 : Int), .int .i64 (b9 : Int)] ?hx ?hr ?h1 ?h63 ?hb ?hbs ?_; (case ho => exact K6.out.gs); (case hs => rfl); (case h63 => exact g1); (case hb => exact g2); (case hbs => exact g3); (case h1 => exact g6); (case hx => rfl); (case hr => exact g5); intro v9 w0 hown9 hgr9 hat9; obtain ⟨av9, cv9, rfl⟩ := own_form hown9; have K9 := Lib.hid (K6.out.app HL9.out hown9 hgr9); have CB9 := Lib.hid (K6.out.cb.kept hgr9 (K6.out.cb.ne_own K6.out.gs (by decide))); have BT9 := Lib.hid ((BT6.out.kept hgr9 (BT6.out.ne_own K6.out.gs (by decide))).kept (set_grown w0 gC 1 (.slice av9 (pre.length + 1) cv9)) (fun e => G8C (by injection e))); have TC9 := Lib.hid (Tr.kept (show Tr w0 n (bkT n x j) (.slice ap0 n cp0) (.slice ap1 n cp1) from ⟨own_kept TC6.out.rx hgr9 (own_ty K6.out.gs (by decide)), own_kept TC6.out.rz hgr9 (own_ty K6.out.gs (by decide))⟩) (set_grown w0 gC 1 (.slice av9 (pre.length + 1) cv9)) (fun b hb cur => ⟨CB9.out.noT (by decide) b hb cur, CB9.out.noT (by decide) b hb cur⟩)); clear hown9 hgr9 hat9 K3 K6 TC6 BT6 g3 g5 hbX c0 c1 d0 d1 d2; obtain ⟨⟨c0, c1⟩, cf0, cf1⟩ := CB9.out.bw.c2; obtain ⟨⟨y0, y1, y2⟩, -⟩ := BT9.out.bw.c3; obtain ⟨⟨t0, t1, t2⟩, tf0, tf1, tf2⟩ := K9.out.t1.bw.c3))
                  have K10 := Lib.hid (K9.out.setT TC9.out)
                  go_roundg wq.length
                  case rel => exact ⟨bkT n x j, pre ++ [j], wq, _, _, _, rfl, HP2, (show LS _ _ _ _ _ _ _ _ _ _ _ from by simpa using K10.out)⟩
                  case measure => have := HGK.out; simp at this; omega
                · have hs := HP.out.skip k1 k2 (show j < g by omega)
                  generalize farV n Q (codeT n (bkT n x j)) = fv at hs f1
                  rcases hs with h0 | h0
                  · subst h0
                    go_wp2_with fail
                    go_roundw
                    case rel => exact ⟨j + 1, by go_num, by omega, K2, W2⟩
                    case measure => simp [intOf]; omega
                  · obtain ⟨fi, hfi⟩ : ∃ fi : Int, fi = (fv : Int) := ⟨_, rfl⟩
                    rw [← hfi] at f1
                    have i7 : (0 : Int) < fi := by omega
                    have HFI := Lib.hid hfi
                    have HFV := Lib.hid h0
                    clear hfi h0
                    go_wp2_with fail
                    clear t0 t1 t2 f1 i7
                    refine (spec_l8Code_rd n k1 k2 x HXS.out _ _ _ r0 r1).mono ?_; rintro e wa ⟨rfl, hba⟩
                    replace K2 := Lib.hid (K2.out.call hba); replace W2 := Lib.hid (own_below W2.out hba rfl)
                    clear hba r0 r1 i5
                    have f0 := K2.out.far.m.cs _ HCX.out
                    rw [HP.out.far k1 k2] at f0
                    obtain ⟨fx, hfx⟩ : ∃ f : Int, f = (((g :: wq).length + 1 : Nat) : Int) := ⟨_, rfl⟩
                    rw [← hfx] at f0
                    have i8 : ¬ fi < fx := by have h7 := HFI.out; have h8 := HFV.out; rw [hfx, h7]; simp; omega
                    clear hfx
                    go_wp2_with fail
                    go_roundw
                    case rel => exact ⟨j + 1, by go_num, by omega, K2, W2⟩
                    case measure => simp [intOf]; omega
      · rw [far_out k1 k2 HI.out HS.out hin] at f0
        have HGN := Lib.hid (show r9 = none from HG.out none (HC.out.resolve_left hin))
        obtain ⟨⟨a0, a1⟩, q0, q1⟩ := X.out.head.c2
        have X9 := Lib.hid ((X.out.set0 0 (.int .i64 0)).set0 1 (.slice none 0 0))
        obtain ⟨⟨c0, c1⟩, -⟩ := X9.out.head.c2
        clear hin HC
        go_wp2_with fail
        exact bodyPost_ret (v := .tuple #[.agg #[.int .i64 0, .slice none 0 0], .bool false]) (by simp [results, Try.results17, go_sem, c0, c1]) rfl (CircPost.none HGN.out X9.out.bel)
    · have HGN := Lib.hid (lwG_no (d := ⟨dn, xs, zs⟩) (fun h => hn h.2))
      have i1 : (2 : Int) < dn := by omega
      generalize lwG ⟨dn, xs, zs⟩ = r9 at *
      go_enter Try.func17, Try.ntmps17
      go_wp2_with fail
      refine (HV.out _ (Rd.below H0.out X.out.bel rfl) (Rd.below H1.out X.out.bel rfl)).mono ?_; rintro e w1 ⟨rfl, hb1⟩; rw [HT.out]
      replace X := Lib.hid (X.out.call hb1)
      clear hb1 HV HT H0 H1
      obtain ⟨⟨a0, a1⟩, f0, f1⟩ := X.out.head.c2
      obtain ⟨⟨b0, b1, b2⟩, -⟩ := (X.out.at 1 rfl).c3
      have X9 := Lib.hid ((X.out.set0 0 (.int .i64 0)).set0 1 (.slice none 0 0))
      obtain ⟨⟨c0, c1⟩, -⟩ := X9.out.head.c2
      go_wp2_with fail
      exact bodyPost_ret (v := .tuple #[.agg #[.int .i64 0, .slice none 0 0], .bool false]) (by simp [results, Try.results17, go_sem, c0, c1]) rfl (CircPost.none HGN.out X9.out.bel)
  · have HGN := Lib.hid (lwG_no (d := ⟨dn, xs, zs⟩) (fun h => ht h.1))
    have HT := Lib.hid (show tabB ⟨dn, xs, zs⟩ = false from decide_eq_false ht)
    generalize lwG ⟨dn, xs, zs⟩ = r9 at *
    go_enter Try.func17, Try.ntmps17
    go_wp2_with fail
    refine (HV.out _ (Rd.below H0.out X.out.bel rfl) (Rd.below H1.out X.out.bel rfl)).mono ?_; rintro e w1 ⟨rfl, hb1⟩; rw [HT.out]
    replace X := Lib.hid (X.out.call hb1)
    clear hb1 HV HT H0 H1
    obtain ⟨⟨a0, a1⟩, f0, f1⟩ := X.out.head.c2
    obtain ⟨⟨b0, b1, b2⟩, -⟩ := (X.out.at 1 rfl).c3
    have X9 := Lib.hid ((X.out.set0 0 (.int .i64 0)).set0 1 (.slice none 0 0))
    obtain ⟨⟨c0, c1⟩, -⟩ := X9.out.head.c2
    go_wp2_with fail
    exact bodyPost_ret (v := .tuple #[.agg #[.int .i64 0, .slice none 0 0], .bool false]) (by simp [results, Try.results17, go_sem, c0, c1]) rfl (CircPost.none HGN.out X9.out.bel)
set_option maxHeartbeats 4000000 in
theorem spec_LeastWord_any (d : Tab) (v0 v1 : Value) (w : World) (h0 : RdE w v0 E3.cs 3 d.xs) (h1 : RdE w v1 E3.cs 3 d.zs) (n0 : d.xs.length ≤ 1048576) (n1 : d.zs.length ≤ 1048576) :
    Calls Try.prog 10 #[.agg #[.int .i64 d.n, v0, v1]] w (CircPost w (lwG d)) := by
  have HV := Lib.hid (fun W h h' => spec_l8Least_any d v0 v1 W h h' n0 n1)
  obtain ⟨dn, xs, zs⟩ := d
  dsimp only at h0 h1 n0 n1 HV ⊢
  have H0 := Lib.hid h0; have H1 := Lib.hid h1
  obtain ⟨A, c, rfl, _⟩ := h0.form
  obtain ⟨A2, c2, rfl, _⟩ := h1.form
  clear h0 h1
  generalize lwG ⟨dn, xs, zs⟩ = r9 at *
  have X := Lib.hid (((Sb.nil w).push [.int .i64 dn, .slice A xs.length c, .slice A2 zs.length c2] 30 rfl).push [.int .i64 0, .slice none 0 0] 36 (g := w.heap.size + 1) (by simp))
  go_enter Try.func10, Try.ntmps10
  go_wp2_with fail
  refine (HV.out _ (Rd.below H0.out X.out.bel rfl) (Rd.below H1.out X.out.bel rfl)).mono ?_; rintro e w1 ⟨u, rfl, ho, hb1⟩
  have hz1 : w.heap.size + 2 ≤ ((w.alloc (.cells #[.int .i64 dn, .slice A xs.length c, .slice A2 zs.length c2] 30)).alloc (.cells #[.int .i64 0, .slice none 0 0] 36)).heap.size := by simp
  have HO := Lib.hid (OwnE.le ho hz1)
  clear hz1
  replace X := Lib.hid (X.out.call hb1)
  obtain ⟨a3, c3, rfl⟩ := ho.forms
  clear hb1 HV H0 H1 ho
  have X9 := Lib.hid ((X.out.set0 0 (.int .i64 (r9.getD Circ.zero).n)).set0 1 (.slice a3 (r9.getD Circ.zero).gs.length c3))
  obtain ⟨⟨a0, a1⟩, f0, f1⟩ := X.out.head.c2
  obtain ⟨⟨c0, c1⟩, -⟩ := X9.out.head.c2
  go_wp2_with fail
  exact bodyPost_ret (v := .tuple #[.agg #[.int .i64 (r9.getD Circ.zero).n, .slice a3 (r9.getD Circ.zero).gs.length c3], .bool r9.isSome]) (by simp [results, Try.results10, go_sem, c0, c1]) rfl ⟨_, rfl, OwnE.le (OwnE.set (OwnE.set HO.out (by dsimp only; omega) _) (by dsimp only; omega) _) (by omega), X9.out.bel⟩
theorem spec_LeastWordLength_any (d : Tab) (v0 v1 : Value) (w : World) (h0 : RdE w v0 E3.cs 3 d.xs) (h1 : RdE w v1 E3.cs 3 d.zs) (n0 : d.xs.length ≤ 1048576) (n1 : d.zs.length ≤ 1048576) :
    Calls Try.prog 6 #[.agg #[.int .i64 d.n, v0, v1]] w fun e w' => e = .returned (.tuple #[.int .i64 (((lwG d).getD Circ.zero).gs.length : Int), .bool (lwG d).isSome]) ∧ Below w.heap.size w w' := by
  have HL := Lib.hid (lwG_len d)
  have HV := Lib.hid (fun W h h' => spec_l8Least_any d v0 v1 W h h' n0 n1)
  obtain ⟨dn, xs, zs⟩ := d
  dsimp only at h0 h1 n0 n1 HV ⊢
  have H0 := Lib.hid h0; have H1 := Lib.hid h1
  obtain ⟨A, c, rfl, _⟩ := h0.form
  obtain ⟨A2, c2, rfl, _⟩ := h1.form
  clear h0 h1
  generalize lwG ⟨dn, xs, zs⟩ = r9 at *
  have X := Lib.hid ((Sb.nil w).push [.int .i64 dn, .slice A xs.length c, .slice A2 zs.length c2] 30 rfl)
  go_enter Try.func6, Try.ntmps6
  go_wp2_with fail
  refine (HV.out _ (Rd.below H0.out X.out.bel rfl) (Rd.below H1.out X.out.bel rfl)).mono ?_; rintro e w1 ⟨u, rfl, ho, hb1⟩
  replace X := Lib.hid (X.out.call hb1)
  obtain ⟨a3, c3, rfl⟩ := ho.forms
  have HLL := HL.out
  clear hb1 HV H0 H1 ho
  have bw := X.out.bel
  go_wp2_with fail
  exact bodyPost_ret (v := .tuple #[.int .i64 ((r9.getD Circ.zero).gs.length : Int), .bool r9.isSome]) (by simp [results, Try.results6, go_sem]) rfl ⟨rfl, (X.out.alloc _).bel⟩
end Go.Proofs.Ytjdffjnennodaaa
