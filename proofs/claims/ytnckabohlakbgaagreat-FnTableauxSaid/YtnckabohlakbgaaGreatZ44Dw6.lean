/- The reference's draw of a tableau. -/
import Derived.Test.YtnckabohlakbgaaGreatZ38M
import Derived.Test.YtnckabohlakbgaaGreatZ43Tog3
import Derived.Test.YtnckabohlakbgaaGreatZ13M
import Derived.Test.YtnckabohlakbgaaGreatZ05M
import Derived.Test.YtnckabohlakbgaaGreatZ40M
import Derived.Test.YtnckabohlakbgaaGreatZ06Brk
import Derived.BigRegion
import Derived.BigQuiet
import Derived.Deep.RegionLaw
import Derived.Deep.DeepCutAuto
namespace Go.Proofs.YtnckabohlakbgaaGreat
set_option linter.unusedSimpArgs false
set_option linter.unusedVariables false
set_option linter.unnecessarySimpa false
set_option maxRecDepth 200000
open Go.ChangeShapes Go.WideShapes Go.ChangeAt Go.RowKit

theorem rd_kept {w w' : World} {n sz : Nat} {v : Value} {xs : List Value} {r : Option Nat} (h : Rd w v n sz xs) (hg : w.grownBy w' r) (hn : ∀ g, v.ownBlock = some g → some g ≠ r) : Rd w' v n sz xs := by
  refine ⟨h.1, ?_⟩
  rcases h.2 with h0 | ⟨g, off, cap, e, hb, h1, h2, hc⟩
  · exact .inl h0
  · exact .inr ⟨g, off, cap, e, Nat.lt_of_lt_of_le hb hg.size, h1, h2, fun j u hj => cell_kept1 (hc j u hj) hg (hn g (by rw [e]; rfl))⟩
/-- A row that can be read, in a block of the call's own. -/
def RdO (w : World) (B : Nat) (u : Value) (xs : List E3) : Prop := RdE w u E3.cs 3 xs ∧ ∀ g, u.ownBlock = some g → B ≤ g
section
variable {w w' : World} {B : Nat} {u : Value} {xs : List E3}
theorem RdO.kept {r : Option Nat} (h : RdO w B u xs) (hg : w.grownBy w' r) (hr : ∀ k, r = some k → k < B) : RdO w' B u xs :=
  ⟨rd_kept h.1 hg (fun g e e2 => by have := h.2 g e; have := hr g e2.symm; omega), h.2⟩
theorem RdO.call (h : RdO w B u xs) (hb : Below w.heap.size w w') : RdO w' B u xs := ⟨RdE.below h.1 hb rfl, h.2⟩
theorem RdO.of {base : Nat} {t : TypeId} (h : OwnE w base t u E3.cs 3 xs) (hb : B ≤ base) : RdO w B u xs :=
  ⟨OwnE.rd h, fun g e => Nat.le_trans hb (World.ownsRow.lt (show World.ownsRow _ _ _ _ _ _ _ from h) g e).1⟩
theorem RdO.set {k : Addr} {x : Value} (h : RdO w B u xs) (hk : k.block < B) (he : k = ⟨k.block, k.off, none⟩) : RdO (w.setCell k x) B u xs := by
  rw [he]
  exact h.kept (box_grown w k.block k.off x) (fun b hb => by injection hb with hb; omega)
/-- The row without its first element. -/
theorem RdO.tail {g n cap base : Nat} {t : TypeId} (h : OwnE w base t (.slice (some ⟨g, 0, none⟩) n cap) E3.cs 3 xs) (hl : xs.length = n) (hn : 1 ≤ n) (hb : B ≤ base) : RdO w B (.slice (some ⟨g, 3, none⟩) (n - 1) (cap - 1)) xs.tail := by
  obtain ⟨x, ys, rfl⟩ : ∃ x ys, xs = x :: ys := by
    cases xs with
    | nil => simp at hl; omega
    | cons x ys => exact ⟨x, ys, rfl⟩
  have h2 := (World.ownsRow.lt (show World.ownsRow _ _ _ _ _ _ _ from h) g rfl)
  have hr := OwnE.rd h
  simp only [List.length_cons] at hl
  refine ⟨⟨by simp [flat_len E3.len], .inr ⟨g, 3, cap - 1, by rw [show (x :: ys).tail.length = n - 1 from (by simp; omega)], h2.2, ?_, ?_, ?_⟩⟩, fun g2 e => by have e2 : g = g2 := (by injection e); omega⟩
  · rcases hr.2 with ⟨⟨_, _, e⟩, h9⟩ | ⟨_, _, c2, e, _, h5, _, _⟩
    · simp at h9
    · injection e with _ _ e; simp at h5; show ys.length ≤ _; omega
  · rcases hr.2 with ⟨⟨_, _, e⟩, h9⟩ | ⟨_, _, c2, e, _, _, h6, _⟩
    · simp at h9
    · injection e with _ _ e; omega
  · intro j v hj
    rcases hr.2 with ⟨⟨_, _, e⟩, h9⟩ | ⟨b2, o2, c2, e, _, _, _, hc⟩
    · simp at h9
    · injection e with e _ _
      injection e with e
      injection e with e1 e2 _
      subst e1; subst e2
      have h7 := hc (j + 3) v (by
        rw [List.flatMap_cons, List.getElem?_append_right (by simp [E3.cs])]
        simpa [E3.cs] using hj)
      rw [Nat.zero_add] at h7
      rw [Nat.add_comm 3 j]; exact h7
theorem RdO.tail_if {g n cap base : Nat} {t : TypeId} (h : OwnE w base t (.slice (some ⟨g, 0, none⟩) n cap) E3.cs 3 xs) (hl : xs.length = n) (hn : 1 ≤ n) (hb : B ≤ base) : RdO w B (.slice (if cap = 1 then some ⟨g, 0, none⟩ else some ⟨g, 3, none⟩) (n - 1) (cap - 1)) xs.tail := by
  by_cases hc : cap = 1
  · rw [if_pos hc]
    have h2 := (World.ownsRow.lt (show World.ownsRow _ _ _ _ _ _ _ from h) g rfl)
    have hr := OwnE.rd h
    have h1 : n = 1 := by
      rcases hr.2 with ⟨⟨_, _, e⟩, h9⟩ | ⟨_, _, c2, e, _, h5, _, _⟩
      · omega
      · injection e with _ _ e; omega
    subst h1
    obtain ⟨x, rfl⟩ : ∃ x, xs = [x] := by
      cases xs with
      | nil => simp at hl
      | cons x ys => exact ⟨x, by simp at hl; rw [hl]⟩
    exact ⟨⟨rfl, .inl ⟨⟨_, _, rfl⟩, rfl⟩⟩, fun g2 e => by have e2 : g = g2 := (by injection e); omega⟩
  · rw [if_neg hc]; exact RdO.tail h hl hn hb
end
theorem clif_of {d : Circ} (h : CircOk d) (ht : ∀ g ∈ d.gs, isTg g = false) : clifB d = true := by
  unfold clifB circB
  rw [decide_eq_true h, Bool.true_and, decide_eq_true_eq]
  unfold tTo
  rw [List.take_length, List.filter_eq_nil_iff.2 (fun g hg => by rw [ht g hg]; simp)]
  rfl
theorem kinds_noT {x : Int} (h : x ∈ kindsC ∨ x = 1) : ¬ (7 ≤ x ∧ x ≤ 8) := by
  rcases h with h | rfl
  · simp [kindsC] at h; omega
  · omega
/-- What a draw of a tableau leaves. -/
def DrawT (b M : Nat) (zs : List Int) (cv : Value) (w : World) (e : Ending) (w' : World) : Prop :=
  ∃ (d : Tab) (u0 u1 : Value), e = .returned (.agg #[.int .i64 d.n, u0, u1]) ∧ d.xs.length ≤ 4 ∧ d.zs.length ≤ 4 ∧ RdO w' w.heap.size u0 d.xs ∧ RdO w' w.heap.size u1 d.zs ∧ Cur w' b zs cv M ∧ w.grownBy w' (some b)
set_option maxHeartbeats 1000000 in
theorem cur_tableau_any (b N n : Nat) (zs : List Int) (cv : Value) (w : World) (h : Cur w b zs cv N) (hn1 : 1 ≤ n) (hn : n ≤ 4) (hN : N + 130 ≤ 1000) (hr : ∀ z ∈ zs, 0 ≤ z ∧ z ≤ 255) :
    Calls Tryz.prog 30 #[.pointer (some ⟨b, 0, none⟩), .int .i64 (n : Int)] w (DrawT b (N + 130) zs cv w) := by
  have CC := Lib.hid (fun W (hc : Cur W b zs cv N) => cur_clifford_any b N n zs cv W hc hn1 hn (by omega) hr)
  have CP := Lib.hid (fun W M m (hc : Cur W b zs cv M) (hm : m ≤ 65536) (hM : M + 2 ≤ 1000) => cur_pick_any b M m zs cv W hc hM hm hr)
  have CA := Lib.hid (fun W v L (hl : L.length = 2) (hc : Cur W b zs cv (N + 104)) (hv : RdI W v L) (ho : ∀ g, v.ownBlock = some g → g ≠ b) => cur_among_any b (N + 104) v L zs cv W hc hv (by omega) (by omega) ho (by omega) hr)
  have CX := Lib.hid (fun W (hc : Cur W b zs cv (N + 104)) => cur_anyPauli_any b (N + 104) n zs cv W hc hn1 hn (by omega) hr)
  have X := Lib.hid ((Dw.start h).push [.int .i64 0, .slice none 0 0, .slice none 0 0] 29 (g := w.heap.size) rfl)
  clear h hr
  have hb := X.out.lb
  have hs1 : (w.alloc (.cells #[.int .i64 0, .slice none 0 0, .slice none 0 0] 29)).heap.size = w.heap.size + 1 := by simp
  go_enter Tryz.func30, Tryz.ntmps30
  go_wp2_with fail
  refine (CC.out _ X.out.cur).mono ?_; rintro e w2 ⟨gs, u, rfl, hl, hok, ho, hc, hg⟩
  have hcl : clifB ⟨(n : Int), gs⟩ = true := clif_of ⟨⟨by dsimp only; omega, by dsimp only; omega⟩, by dsimp only; omega, fun g hg => (hok g hg).1⟩ (fun g hg => decide_eq_false (kinds_noT (hok g hg).2))
  replace X := Lib.hid (X.out.step hc hg)
  have CL := Lib.hid (spec_l7Of_any u ⟨(n : Int), gs⟩ n w2 (OwnE.rd ho) rfl hcl)
  have hl2 : w.heap.size + 1 ≤ w2.heap.size := X.out.head.lt
  have lx0 := tofX_len n gs gs.length
  have lz0 := tofZ_len n gs gs.length
  dsimp only at CL
  generalize tofX n gs gs.length = LX at *
  generalize tofZ n gs gs.length = LZ at *
  clear hok ho hc hg CC hs1 hcl hl
  go_wp2_with fail
  refine (CL.out).mono ?_; rintro e w3 ⟨r0, r1, rfl, h0, h1, hap, hb3⟩
  obtain ⟨a0, c0, rfl⟩ := h0.forms
  obtain ⟨a1, c1, rfl⟩ := h1.forms
  have lx : (pes LX).length = n := by rw [pes_len]; exact lx0
  have lz : (pes LZ).length = n := by rw [pes_len]; exact lz0
  rw [lx] at h0 ⊢
  rw [lz] at h1 ⊢
  rw [lx, lz] at hap
  obtain ⟨g5, hg5⟩ : ∃ g, w3.heap.size = g := ⟨_, rfl⟩
  have hl3 := hb3.size
  have n0 : (Value.slice a0 n c0).ownBlock ≠ some g5 := fun e => by have := (World.ownsRow.lt (show World.ownsRow _ _ _ _ _ _ _ from h0) g5 e).2; omega
  have n1 : (Value.slice a1 n c1).ownBlock ≠ some g5 := fun e => by have := (World.ownsRow.lt (show World.ownsRow _ _ _ _ _ _ _ from h1) g5 e).2; omega
  have hbA := (show Below w3.heap.size w3 (w3.alloc (.cells #[.int .i64 (n : Int), .slice a0 n c0, .slice a1 n c1] 29)) from belo)
  replace X := Lib.hid ((X.out.call hb3).push [.int .i64 (n : Int), .slice a0 n c0, .slice a1 n c1] 29 hg5)
  have O0 := Lib.hid (OwnE.below (OwnE.le h0 hl2) hbA rfl)
  have O1 := Lib.hid (OwnE.below (OwnE.le h1 hl2) hbA rfl)
  have AP := Lib.hid hap
  have hG5 : w.heap.size + 1 ≤ g5 := by omega
  clear h0 h1 hap hb3 hbA CL hl3 hl2
  go_wp2_with fail
  clear hg5
  generalize (w3.alloc (.cells #[.int .i64 (n : Int), .slice a0 n c0, .slice a1 n c1] 29)) = w4 at *
  refine (CP.out _ _ n X.out.cur (by omega) (by omega)).mono ?_; rintro e w5 ⟨q, rfl, hq, _, hc, hg⟩
  replace X := Lib.hid (X.out.step hc hg)
  replace O0 := Lib.hid (own_step O0.out hg (by omega))
  replace O1 := Lib.hid (own_step O1.out hg (by omega))
  have hqn := hq hn1
  clear hc hg hq
  go_wp2_with fail
  refine (CP.out _ _ 14 X.out.cur (by omega) (by omega)).mono ?_; rintro e w6 ⟨x, rfl, _, _, hc, hg⟩
  replace X := Lib.hid (X.out.step hc hg)
  replace O0 := Lib.hid (own_step O0.out hg (by omega))
  replace O1 := Lib.hid (own_step O1.out hg (by omega))
  clear hc hg CP
  obtain ⟨g0, e0, h0⟩ : ∃ g0, a0 = some ⟨g0, 0, none⟩ ∧ w.heap.size + 1 ≤ g0 := by
    obtain ⟨g, e, h1, _⟩ := own_at E3.len (show OwnE w6 (w.heap.size + 1) 33 (.slice a0 n c0) E3.cs 3 (pes LX) from O0.out) q (by omega)
    exact ⟨g, e, h1⟩
  obtain ⟨g1, e1, h1⟩ : ∃ g1, a1 = some ⟨g1, 0, none⟩ ∧ w.heap.size + 1 ≤ g1 := by
    obtain ⟨g, e, h1, _⟩ := own_at E3.len (show OwnE w6 (w.heap.size + 1) 33 (.slice a1 n c1) E3.cs 3 (pes LZ) from O1.out) q (by omega)
    exact ⟨g, e, h1⟩
  subst e0; subst e1
  have hne : g0 ≠ g1 := fun e => AP.out g0 rfl (by rw [e]; rfl)
  have hn05 : g0 ≠ g5 := fun e => n0 (by rw [e]; rfl)
  have hn15 : g1 ≠ g5 := fun e => n1 (by rw [e]; rfl)
  clear AP n0 n1
  by_cases h4 : (x = 0 ∨ x = 1) ∨ x = 2 ∨ x = 3
  · rcases h4 with (rfl | rfl) | rfl | rfl
    · -- the image of an X operator is replaced
      replace X := Lib.hid X.out.drew
      replace O0 := Lib.hid (OwnE.below O0.out (show Below w6.heap.size w6 w6.drew from belo) rfl)
      replace O1 := Lib.hid (OwnE.below O1.out (show Below w6.heap.size w6 w6.drew from belo) rfl)
      have iq : (q : Int) < (n : Int) := by omega
      obtain ⟨⟨t0, t1, t2⟩, tf0, tf1, tf2⟩ := X.out.head.c3
      go_wp2_with fail
      refine AnyB.begin (S := (fun w' => w'.cell? ⟨g5, 1, none⟩ = some (.slice (some ⟨g0, 0, none⟩) n c0))) [7] (by kernel_rfl) ?_ (fun hHeld0 => ?_)
      · ((try dsimp only); (exact t1))
      refine AnyB.tq (i := 0) (h := ?_)
      refine AnyB.tk (i := 1) (h := ?_)
      refine AnyB.tq (i := 2) (h := ?_)
      refine AnyB.tq (i := 3) (h := ?_)
      refine AnyB.tq (i := 4) (h := ?_)
      refine AnyB.each (rs := [5]) (by kernel_rfl) (by simp) ?_
      refine EachB.cons rfl (fun K hK hB => ?_) ?_
      · skip
        (go_simp; go_at_call 31; refine (CX.out _ X.out.cur).mono ?_; rintro e xA ⟨yp, yx, yz, rfl, hc, hg⟩; replace X := Lib.hid (X.out.step hc hg); replace O0 := Lib.hid (own_step O0.out hg (by omega)); replace O1 := Lib.hid (own_step O1.out hg (by omega)); clear hc hg t0 t1 t2 tf0 tf1 tf2; obtain ⟨⟨t0, t1, t2⟩, tf0, tf1, tf2⟩ := X.out.head.c3; dsimp only)
        refine hK.out _ _ ?_ (fun hHeld1 => ?_)
        · ((try dsimp only); (exact t1))
        clear hB hK K hHeld0
        refine AnyB.tq (i := 6) (h := ?_)
        refine AnyB.each (rs := [7]) (by kernel_rfl) (by simp) ?_
        refine EachB.cons rfl (fun K hK hB => ?_) ?_
        · skip
          (obtain ⟨g9, e9, _, _, hc9⟩ := own_at E3.len (show OwnE xA (w.heap.size + 1) 33 (.slice (some ⟨g0, 0, none⟩) n c0) E3.cs 3 (pes LX) from O0.out) q (by omega); obtain rfl : g0 = g9 := (by injection e9 with e9; injection e9); have y0 := hc9 0 _ (by omega) rfl; have y1 := hc9 1 _ (by omega) rfl; have y2 := hc9 2 _ (by omega) rfl; rw [Nat.add_zero] at y0; have W0 : xA.ownsRow (w.heap.size + 1) 33 3 (.slice (some ⟨g0, 0, none⟩) n c0) n ((pes LX).flatMap E3.cs) := OwnG.of (show OwnE xA (w.heap.size + 1) 33 (.slice (some ⟨g0, 0, none⟩) n c0) E3.cs 3 (pes LX) from O0.out) lx; have q0 := World.ownsRow.frozenAt W0 (q * 3); have q1 := World.ownsRow.frozenAt W0 (q * 3 + 1); have q2 := World.ownsRow.frozenAt W0 (q * 3 + 2); clear W0; clear hc9 e9; go_simp; clear y0 y1 y2 q0 q1 q2)
          refine hB.out _ _ rfl ?_
          clear hB hK K
          refine AnyB.none (by kernel_rfl) ?_ _
          have G9 := OwnG.set (OwnG.of (show OwnE xA (w.heap.size + 1) 33 (.slice (some ⟨g0, 0, none⟩) n c0) E3.cs 3 (pes LX) from O0.out) lx) q hqn ⟨yp, yx, yz⟩
          have gr1 := box_grown xA g0 (q * 3) (.int .i64 yp)
          have gr2 := box_grown (xA.setCell ⟨g0, q * 3, none⟩ (.int .i64 yp)) g0 (q * 3 + 1) (.int .i64 yx)
          have gr3 := box_grown ((xA.setCell ⟨g0, q * 3, none⟩ (.int .i64 yp)).setCell ⟨g0, q * 3 + 1, none⟩ (.int .i64 yx)) g0 (q * 3 + 2) (.int .i64 yz)
          have hk : ∀ k, some g0 = some k → w.heap.size ≤ k ∧ ∀ p ∈ [(g5, [Value.int .i64 (n : Int), .slice (some ⟨g0, 0, none⟩) n c0, .slice (some ⟨g1, 0, none⟩) n c1]), (w.heap.size, [.int .i64 0, .slice none 0 0, .slice none 0 0])], p.1 ≠ k := fun k e => by
            injection e with e
            subst e
            exact ⟨by omega, fun p hp => by simp at hp; rcases hp with rfl | rfl <;> (dsimp only; omega)⟩
          have X7 := Lib.hid (((X.out.kept gr1 hk).kept gr2 hk).kept gr3 hk)
          have P1 := Lib.hid (own_set_ne (own_set_ne (own_set_ne (show World.ownsRow _ _ _ _ _ _ _ from O1.out) (a := ⟨g0, q * 3, none⟩) (fun e => hne (by injection e with e; exact e.symm)) (.int .i64 yp)) (a := ⟨g0, q * 3 + 1, none⟩) (fun e => hne (by injection e with e; exact e.symm)) (.int .i64 yx)) (a := ⟨g0, q * 3 + 2, none⟩) (fun e => hne (by injection e with e; exact e.symm)) (.int .i64 yz))
          have G0 := Lib.hid G9
          clear G9 gr1 gr2 gr3 hk O0 O1 t0 t1 t2 tf0 tf1 tf2 X
          have X := X7
          clear X7
          generalize (((xA.setCell ⟨g0, q * 3, none⟩ (.int .i64 yp)).setCell ⟨g0, q * 3 + 1, none⟩ (.int .i64 yx)).setCell ⟨g0, q * 3 + 2, none⟩ (.int .i64 yz)) = w7 at *
          have R0 := Lib.hid (show RdO w7 (w.heap.size + 1) (.slice (some ⟨g0, 0, none⟩) n c0) ((pes LX).set q ⟨yp, yx, yz⟩) from RdO.of (base := w.heap.size + 1) (t := 33) (by have h9 := G0.out; unfold OwnG at h9; unfold OwnE; rw [List.length_set, lx]; exact h9) (Nat.le_refl _))
          have R1 := Lib.hid (show RdO w7 (w.heap.size + 1) (.slice (some ⟨g1, 0, none⟩) n c1) (pes LZ) from RdO.of (base := w.heap.size + 1) (t := 33) P1.out (Nat.le_refl _))
          clear G0 P1
          obtain ⟨⟨t0, t1, t2⟩, -⟩ := X.out.head.c3
          obtain ⟨⟨o0, o1, o2⟩, p0, p1, p2⟩ := (X.out.at 1 rfl).c3
          have X9 := Lib.hid (((X.out.set1 0 (.int .i64 ((n : Int)))).set1 1 (.slice (some ⟨g0, 0, none⟩) n c0)).set1 2 (.slice (some ⟨g1, 0, none⟩) n c1))
          have Q0 := Lib.hid (((R0.out.set (k := ⟨w.heap.size, 0, none⟩) (by dsimp only; omega) rfl (x := .int .i64 ((n : Int)))).set (k := ⟨w.heap.size, 1, none⟩) (by dsimp only; omega) rfl (x := .slice (some ⟨g0, 0, none⟩) n c0)).set (k := ⟨w.heap.size, 2, none⟩) (by dsimp only; omega) rfl (x := .slice (some ⟨g1, 0, none⟩) n c1))
          have Q1 := Lib.hid (((R1.out.set (k := ⟨w.heap.size, 0, none⟩) (by dsimp only; omega) rfl (x := .int .i64 ((n : Int)))).set (k := ⟨w.heap.size, 1, none⟩) (by dsimp only; omega) rfl (x := .slice (some ⟨g0, 0, none⟩) n c0)).set (k := ⟨w.heap.size, 2, none⟩) (by dsimp only; omega) rfl (x := .slice (some ⟨g1, 0, none⟩) n c1))
          clear R0 R1
          go_wp2_with fail
          clear t0 t1 t2 o0 o1 o2 p0 p1 p2
          obtain ⟨⟨o0, o1, o2⟩, -⟩ := (X9.out.at 1 rfl).c3
          exact bodyPost_ret (v := .agg #[.int .i64 ((n : Int)), .slice (some ⟨g0, 0, none⟩) n c0, .slice (some ⟨g1, 0, none⟩) n c1]) (by simp [results, Tryz.results30, go_sem, o0, o1, o2]) rfl ⟨⟨(n : Int), (pes LX).set q ⟨yp, yx, yz⟩, pes LZ⟩, .slice (some ⟨g0, 0, none⟩) n c0, .slice (some ⟨g1, 0, none⟩) n c1, rfl, by dsimp only; rw [List.length_set, lx]; omega, by dsimp only; rw [lz]; omega, ⟨Q0.out.1, fun g e => by have := Q0.out.2 g e; omega⟩, ⟨Q1.out.1, fun g e => by have := Q1.out.2 g e; omega⟩, X9.out.cur.le (by omega), X9.out.gr⟩
        exact EachB.nil
      exact EachB.nil
    · -- a row without its first element
      obtain ⟨⟨t0, t1, t2⟩, tf0, tf1, tf2⟩ := X.out.head.c3
      have i1 : (1 : Int) ≤ (n : Int) := by omega
      obtain ⟨vT, hvT⟩ : ∃ v, v = Value.slice (if c1 = 1 then some ⟨g1, 0, none⟩ else some ⟨g1, 3, none⟩) (n - 1) (c1 - 1) := ⟨_, rfl⟩
      have RT := Lib.hid (RdO.tail_if (B := w.heap.size + 1) (show OwnE w6 (w.heap.size + 1) 33 (.slice (some ⟨g1, 0, none⟩) n c1) E3.cs 3 (pes LZ) from O1.out) lz hn1 (Nat.le_refl _))
      have RS := Lib.hid (show RdO w6 (w.heap.size + 1) (.slice (some ⟨g0, 0, none⟩) n c0) (pes LX) from RdO.of (show OwnE w6 (w.heap.size + 1) 33 _ _ _ _ from O0.out) (Nat.le_refl _))
      obtain ⟨aT, haT⟩ : ∃ a, a = (if c1 = 1 then some (⟨g1, 0, none⟩ : Addr) else some ⟨g1, 3, none⟩) := ⟨_, rfl⟩
      have HAT := Lib.hid haT
      rw [← haT] at RT
      go_upto_region 12 with fail
      rw [← HAT.out]
      clear haT hvT
      have hnT : (Value.slice aT (n - 1) (c1 - 1)).ownBlock ≠ some g5 := fun e => hn15 (by
        rw [HAT.out] at e
        split at e
        · injection e
        · injection e)
      have X7 := Lib.hid (X.out.set0 2 (.slice aT (n - 1) (c1 - 1)))
      have gr := box_grown w6 g5 2 (.slice aT (n - 1) (c1 - 1))
      have R0 := Lib.hid (show RdO (w6.setCell ⟨g5, 2, none⟩ (.slice aT (n - 1) (c1 - 1))) (w.heap.size + 1) (.slice (some ⟨g0, 0, none⟩) n c0) (pes LX) from ⟨rd_kept RS.out.1 gr (fun g e e2 => hn05 (by have a9 : g0 = g := (by injection e); have b9 : g = g5 := (by injection e2); omega)), RS.out.2⟩)
      have R1 := Lib.hid (show RdO (w6.setCell ⟨g5, 2, none⟩ (.slice aT (n - 1) (c1 - 1))) (w.heap.size + 1) (.slice aT (n - 1) (c1 - 1)) (pes LZ).tail from ⟨rd_kept RT.out.1 gr (fun g e e2 => hnT (by rw [e, e2])), RT.out.2⟩)
      clear X t0 t1 t2 tf0 tf1 tf2 gr RT RS O0 O1 HAT hnT
      have X := X7
      clear X7
      generalize w6.setCell ⟨g5, 2, none⟩ (.slice aT (n - 1) (c1 - 1)) = w7 at *
      obtain ⟨⟨t0, t1, t2⟩, -⟩ := X.out.head.c3
      obtain ⟨⟨o0, o1, o2⟩, p0, p1, p2⟩ := (X.out.at 1 rfl).c3
      have X9 := Lib.hid (((X.out.set1 0 (.int .i64 ((n : Int)))).set1 1 (.slice (some ⟨g0, 0, none⟩) n c0)).set1 2 (.slice aT (n - 1) (c1 - 1)))
      have Q0 := Lib.hid (((R0.out.set (k := ⟨w.heap.size, 0, none⟩) (by dsimp only; omega) rfl (x := .int .i64 ((n : Int)))).set (k := ⟨w.heap.size, 1, none⟩) (by dsimp only; omega) rfl (x := .slice (some ⟨g0, 0, none⟩) n c0)).set (k := ⟨w.heap.size, 2, none⟩) (by dsimp only; omega) rfl (x := .slice aT (n - 1) (c1 - 1)))
      have Q1 := Lib.hid (((R1.out.set (k := ⟨w.heap.size, 0, none⟩) (by dsimp only; omega) rfl (x := .int .i64 ((n : Int)))).set (k := ⟨w.heap.size, 1, none⟩) (by dsimp only; omega) rfl (x := .slice (some ⟨g0, 0, none⟩) n c0)).set (k := ⟨w.heap.size, 2, none⟩) (by dsimp only; omega) rfl (x := .slice aT (n - 1) (c1 - 1)))
      clear R0 R1
      go_wp2_with fail
      clear t0 t1 t2 o0 o1 o2 p0 p1 p2
      obtain ⟨⟨o0, o1, o2⟩, -⟩ := (X9.out.at 1 rfl).c3
      exact bodyPost_ret (v := .agg #[.int .i64 ((n : Int)), .slice (some ⟨g0, 0, none⟩) n c0, .slice aT (n - 1) (c1 - 1)]) (by simp [results, Tryz.results30, go_sem, o0, o1, o2]) rfl ⟨⟨(n : Int), pes LX, (pes LZ).tail⟩, .slice (some ⟨g0, 0, none⟩) n c0, .slice aT (n - 1) (c1 - 1), rfl, by dsimp only; rw [lx]; omega, by dsimp only; rw [List.length_tail, lz]; omega, ⟨Q0.out.1, fun g e => by have := Q0.out.2 g e; omega⟩, ⟨Q1.out.1, fun g e => by have := Q1.out.2 g e; omega⟩, X9.out.cur.le (by omega), X9.out.gr⟩
    · have e1 : IntKind.i64.wrap ((n : Int) + 1) = (n : Int) + 1 := IntWalk.i64_in _ (by omega)
      go_wp2_with fail
      have L1 := Lib.hid (show RdI (w6.alloc (.cells #[.int .i64 0, .int .i64 ((n : Int) + 1)] 3)) (.slice (some ⟨w6.heap.size, 0, none⟩) 2 2) [0, (n : Int) + 1] from lit_num _ [0, (n : Int) + 1] (by simp))
      have hbA := (show Below w6.heap.size w6 (w6.alloc (.cells #[.int .i64 0, .int .i64 ((n : Int) + 1)] 3)) from belo)
      have hl6 := X.out.head.lt
      have HO := Lib.hid (show ∀ g, (Value.slice (some ⟨w6.heap.size, 0, none⟩) 2 2).ownBlock = some g → g ≠ b from fun g e => by
        have e3 : w6.heap.size = g := by injection e
        omega)
      replace X := Lib.hid (X.out.call hbA)
      replace O0 := Lib.hid (OwnE.below (show OwnE w6 (w.heap.size + 1) 33 (.slice (some ⟨g0, 0, none⟩) n c0) E3.cs 3 (pes LX) from O0.out) hbA rfl)
      replace O1 := Lib.hid (OwnE.below (show OwnE w6 (w.heap.size + 1) 33 (.slice (some ⟨g1, 0, none⟩) n c1) E3.cs 3 (pes LZ) from O1.out) hbA rfl)
      clear hbA hl6
      generalize (w6.alloc (.cells #[.int .i64 0, .int .i64 ((n : Int) + 1)] 3)) = w8 at *
      refine (CA.out _ _ [0, (n : Int) + 1] rfl X.out.cur L1.out HO.out).mono ?_; rintro e w9 ⟨y, rfl, _, hc, hg⟩
      replace X := Lib.hid (X.out.step hc hg)
      replace O0 := Lib.hid (own_step O0.out hg (by omega))
      replace O1 := Lib.hid (own_step O1.out hg (by omega))
      clear hc hg L1 HO CA
      obtain ⟨⟨t0, t1, t2⟩, tf0, tf1, tf2⟩ := X.out.head.c3
      have X7 := Lib.hid (X.out.set0 0 (.int .i64 y))
      have gr := box_grown w9 g5 0 (.int .i64 y)
      have R0 := Lib.hid (show RdO (w9.setCell ⟨g5, 0, none⟩ (.int .i64 y)) (w.heap.size + 1) (.slice (some ⟨g0, 0, none⟩) n c0) (pes LX) from ⟨rd_kept (OwnE.rd O0.out) gr (fun g e e2 => hn05 (by have a9 : g0 = g := (by injection e); have b9 : g = g5 := (by injection e2); omega)), (RdO.of O0.out (Nat.le_refl _)).2⟩)
      have R1 := Lib.hid (show RdO (w9.setCell ⟨g5, 0, none⟩ (.int .i64 y)) (w.heap.size + 1) (.slice (some ⟨g1, 0, none⟩) n c1) (pes LZ) from ⟨rd_kept (OwnE.rd O1.out) gr (fun g e e2 => hn15 (by have a9 : g1 = g := (by injection e); have b9 : g = g5 := (by injection e2); omega)), (RdO.of O1.out (Nat.le_refl _)).2⟩)
      go_upto_region 12 with fail
      clear X t0 t1 t2 tf0 tf1 tf2 gr O0 O1
      have X := X7
      clear X7
      generalize w9.setCell ⟨g5, 0, none⟩ (.int .i64 y) = w7 at *
      obtain ⟨⟨t0, t1, t2⟩, -⟩ := X.out.head.c3
      obtain ⟨⟨o0, o1, o2⟩, p0, p1, p2⟩ := (X.out.at 1 rfl).c3
      have X9 := Lib.hid (((X.out.set1 0 (.int .i64 (y))).set1 1 (.slice (some ⟨g0, 0, none⟩) n c0)).set1 2 (.slice (some ⟨g1, 0, none⟩) n c1))
      have Q0 := Lib.hid (((R0.out.set (k := ⟨w.heap.size, 0, none⟩) (by dsimp only; omega) rfl (x := .int .i64 (y))).set (k := ⟨w.heap.size, 1, none⟩) (by dsimp only; omega) rfl (x := .slice (some ⟨g0, 0, none⟩) n c0)).set (k := ⟨w.heap.size, 2, none⟩) (by dsimp only; omega) rfl (x := .slice (some ⟨g1, 0, none⟩) n c1))
      have Q1 := Lib.hid (((R1.out.set (k := ⟨w.heap.size, 0, none⟩) (by dsimp only; omega) rfl (x := .int .i64 (y))).set (k := ⟨w.heap.size, 1, none⟩) (by dsimp only; omega) rfl (x := .slice (some ⟨g0, 0, none⟩) n c0)).set (k := ⟨w.heap.size, 2, none⟩) (by dsimp only; omega) rfl (x := .slice (some ⟨g1, 0, none⟩) n c1))
      clear R0 R1
      go_wp2_with fail
      clear t0 t1 t2 o0 o1 o2 p0 p1 p2
      obtain ⟨⟨o0, o1, o2⟩, -⟩ := (X9.out.at 1 rfl).c3
      exact bodyPost_ret (v := .agg #[.int .i64 (y), .slice (some ⟨g0, 0, none⟩) n c0, .slice (some ⟨g1, 0, none⟩) n c1]) (by simp [results, Tryz.results30, go_sem, o0, o1, o2]) rfl ⟨⟨y, pes LX, pes LZ⟩, .slice (some ⟨g0, 0, none⟩) n c0, .slice (some ⟨g1, 0, none⟩) n c1, rfl, by dsimp only; rw [lx]; omega, by dsimp only; rw [lz]; omega, ⟨Q0.out.1, fun g e => by have := Q0.out.2 g e; omega⟩, ⟨Q1.out.1, fun g e => by have := Q1.out.2 g e; omega⟩, X9.out.cur.le (by omega), X9.out.gr⟩
    · have iq : (q : Int) < (n : Int) := by omega
      have OB : OwnE w6 (w.heap.size + 1) 33 (.slice (some ⟨g1, 0, none⟩) n c1) E3.cs 3 (pes LZ) := O1.out
      obtain ⟨g9, e9, _, _, hc9⟩ := own_at E3.len OB q (by omega)
      obtain rfl : g1 = g9 := (by injection e9 with e9; injection e9)
      have G1 := OwnG.of OB lz
      have y0 := hc9 0 _ (by omega) rfl
      rw [Nat.add_zero] at y0
      have q0 := World.ownsRow.frozenAt (show w6.ownsRow (w.heap.size + 1) 33 3 (.slice (some ⟨g1, 0, none⟩) n c1) n ((pes LZ).flatMap E3.cs) from G1) (q * 3)
      obtain ⟨zv, hzv⟩ : ∃ z : Int, z = ((pes LZ)[q]'(by omega)).a := ⟨_, rfl⟩
      rw [← hzv] at y0
      obtain ⟨nv, hnv⟩ : ∃ z : Int, z = bits .xor .i64 zv 2 := ⟨_, rfl⟩
      have HNV := Lib.hid hnv
      obtain ⟨⟨t0, t1, t2⟩, tf0, tf1, tf2⟩ := X.out.head.c3
      clear hc9 e9 hzv hnv
      go_upto_region 12 with fail
      rw [← HNV.out]
      have G9 := OwnG.ph G1 q hqn nv
      have gr1 := box_grown w6 g1 (q * 3) (.int .i64 nv)
      have hk : ∀ k, some g1 = some k → w.heap.size ≤ k ∧ ∀ p ∈ [(g5, [Value.int .i64 (n : Int), .slice (some ⟨g0, 0, none⟩) n c0, .slice (some ⟨g1, 0, none⟩) n c1]), (w.heap.size, [.int .i64 0, .slice none 0 0, .slice none 0 0])], p.1 ≠ k := fun k e => by
        injection e with e
        subst e
        exact ⟨by omega, fun p hp => by simp at hp; rcases hp with rfl | rfl <;> (dsimp only; omega)⟩
      have X7 := Lib.hid (X.out.kept gr1 hk)
      have R0 := Lib.hid (show RdO (w6.setCell ⟨g1, q * 3, none⟩ (.int .i64 nv)) (w.heap.size + 1) (.slice (some ⟨g0, 0, none⟩) n c0) (pes LX) from RdO.of (base := w.heap.size + 1) (t := 33) (own_set_ne (show World.ownsRow _ _ _ _ _ _ _ from O0.out) (a := ⟨g1, q * 3, none⟩) (fun e => hne (by injection e)) (.int .i64 nv)) (Nat.le_refl _))
      have R1 := Lib.hid (show RdO (w6.setCell ⟨g1, q * 3, none⟩ (.int .i64 nv)) (w.heap.size + 1) (.slice (some ⟨g1, 0, none⟩) n c1) ((pes LZ).set q ⟨nv, ((pes LZ).getD q ⟨0, 0, 0⟩).b, ((pes LZ).getD q ⟨0, 0, 0⟩).c⟩) from RdO.of (base := w.heap.size + 1) (t := 33) (by unfold OwnG at G9; unfold OwnE; rw [List.length_set, lz]; exact G9) (Nat.le_refl _))
      clear X t0 t1 t2 tf0 tf1 tf2 gr1 hk O0 O1 G1 G9 OB y0 q0 HNV
      have X := X7
      clear X7
      generalize w6.setCell ⟨g1, q * 3, none⟩ (.int .i64 nv) = w7 at *
      obtain ⟨⟨t0, t1, t2⟩, -⟩ := X.out.head.c3
      obtain ⟨⟨o0, o1, o2⟩, p0, p1, p2⟩ := (X.out.at 1 rfl).c3
      have X9 := Lib.hid (((X.out.set1 0 (.int .i64 ((n : Int)))).set1 1 (.slice (some ⟨g0, 0, none⟩) n c0)).set1 2 (.slice (some ⟨g1, 0, none⟩) n c1))
      have Q0 := Lib.hid (((R0.out.set (k := ⟨w.heap.size, 0, none⟩) (by dsimp only; omega) rfl (x := .int .i64 ((n : Int)))).set (k := ⟨w.heap.size, 1, none⟩) (by dsimp only; omega) rfl (x := .slice (some ⟨g0, 0, none⟩) n c0)).set (k := ⟨w.heap.size, 2, none⟩) (by dsimp only; omega) rfl (x := .slice (some ⟨g1, 0, none⟩) n c1))
      have Q1 := Lib.hid (((R1.out.set (k := ⟨w.heap.size, 0, none⟩) (by dsimp only; omega) rfl (x := .int .i64 ((n : Int)))).set (k := ⟨w.heap.size, 1, none⟩) (by dsimp only; omega) rfl (x := .slice (some ⟨g0, 0, none⟩) n c0)).set (k := ⟨w.heap.size, 2, none⟩) (by dsimp only; omega) rfl (x := .slice (some ⟨g1, 0, none⟩) n c1))
      clear R0 R1
      go_wp2_with fail
      clear t0 t1 t2 o0 o1 o2 p0 p1 p2
      obtain ⟨⟨o0, o1, o2⟩, -⟩ := (X9.out.at 1 rfl).c3
      exact bodyPost_ret (v := .agg #[.int .i64 ((n : Int)), .slice (some ⟨g0, 0, none⟩) n c0, .slice (some ⟨g1, 0, none⟩) n c1]) (by simp [results, Tryz.results30, go_sem, o0, o1, o2]) rfl ⟨⟨(n : Int), pes LX, (pes LZ).set q ⟨nv, ((pes LZ).getD q ⟨0, 0, 0⟩).b, ((pes LZ).getD q ⟨0, 0, 0⟩).c⟩⟩, .slice (some ⟨g0, 0, none⟩) n c0, .slice (some ⟨g1, 0, none⟩) n c1, rfl, by dsimp only; rw [lx]; omega, by dsimp only; rw [List.length_set, lz]; omega, ⟨Q0.out.1, fun g e => by have := Q0.out.2 g e; omega⟩, ⟨Q1.out.1, fun g e => by have := Q1.out.2 g e; omega⟩, X9.out.cur.le (by omega), X9.out.gr⟩
  · have i0 : ¬ x = 0 := by omega
    have i1 : ¬ x = 1 := by omega
    have i2 : ¬ x = 2 := by omega
    have i3 : ¬ x = 3 := by omega
    have R0 := Lib.hid (show RdO w6 (w.heap.size + 1) (.slice (some ⟨g0, 0, none⟩) n c0) (pes LX) from RdO.of (show OwnE w6 (w.heap.size + 1) 33 _ _ _ _ from O0.out) (Nat.le_refl _))
    have R1 := Lib.hid (show RdO w6 (w.heap.size + 1) (.slice (some ⟨g1, 0, none⟩) n c1) (pes LZ) from RdO.of (show OwnE w6 (w.heap.size + 1) 33 _ _ _ _ from O1.out) (Nat.le_refl _))
    clear h4 O0 O1
    obtain ⟨⟨t0, t1, t2⟩, -⟩ := X.out.head.c3
    obtain ⟨⟨o0, o1, o2⟩, p0, p1, p2⟩ := (X.out.at 1 rfl).c3
    have X9 := Lib.hid (((X.out.set1 0 (.int .i64 ((n : Int)))).set1 1 (.slice (some ⟨g0, 0, none⟩) n c0)).set1 2 (.slice (some ⟨g1, 0, none⟩) n c1))
    have Q0 := Lib.hid (((R0.out.set (k := ⟨w.heap.size, 0, none⟩) (by dsimp only; omega) rfl (x := .int .i64 ((n : Int)))).set (k := ⟨w.heap.size, 1, none⟩) (by dsimp only; omega) rfl (x := .slice (some ⟨g0, 0, none⟩) n c0)).set (k := ⟨w.heap.size, 2, none⟩) (by dsimp only; omega) rfl (x := .slice (some ⟨g1, 0, none⟩) n c1))
    have Q1 := Lib.hid (((R1.out.set (k := ⟨w.heap.size, 0, none⟩) (by dsimp only; omega) rfl (x := .int .i64 ((n : Int)))).set (k := ⟨w.heap.size, 1, none⟩) (by dsimp only; omega) rfl (x := .slice (some ⟨g0, 0, none⟩) n c0)).set (k := ⟨w.heap.size, 2, none⟩) (by dsimp only; omega) rfl (x := .slice (some ⟨g1, 0, none⟩) n c1))
    clear R0 R1
    go_wp2_with fail
    clear t0 t1 t2 o0 o1 o2 p0 p1 p2
    obtain ⟨⟨o0, o1, o2⟩, -⟩ := (X9.out.at 1 rfl).c3
    exact bodyPost_ret (v := .agg #[.int .i64 ((n : Int)), .slice (some ⟨g0, 0, none⟩) n c0, .slice (some ⟨g1, 0, none⟩) n c1]) (by simp [results, Tryz.results30, go_sem, o0, o1, o2]) rfl ⟨⟨(n : Int), pes LX, pes LZ⟩, .slice (some ⟨g0, 0, none⟩) n c0, .slice (some ⟨g1, 0, none⟩) n c1, rfl, by dsimp only; rw [lx]; omega, by dsimp only; rw [lz]; omega, ⟨Q0.out.1, fun g e => by have := Q0.out.2 g e; omega⟩, ⟨Q1.out.1, fun g e => by have := Q1.out.2 g e; omega⟩, X9.out.cur.le (by omega), X9.out.gr⟩
end Go.Proofs.YtnckabohlakbgaaGreat
