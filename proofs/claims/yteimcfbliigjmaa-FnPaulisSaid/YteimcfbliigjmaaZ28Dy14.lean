/- The cell of a matrix; matrices are the same. -/
import Derived.Test.YteimcfbliigjmaaZ27Dy11
import Derived.BigRegion
import Derived.BigQuiet
namespace Go.Proofs.Yteimcfbliigjmaa
set_option linter.unusedSimpArgs false
set_option linter.unusedVariables false
set_option linter.unnecessarySimpa false
set_option maxRecDepth 200000
open Go.ChangeShapes Go.WideShapes Go.ChangeAt Go.RowKit

theorem Sb.drewN {B : Nat} {w0 w : World} {L : List (Nat × List Value)} (h : Sb B w0 w L) (n : Nat) : Sb B w0 (w.drewN n) L :=
  ⟨h.hB, below_drewN h.bel n, fun p hp => ⟨(h.bx p hp).lt, (h.bx p hp).cs, (h.bx p hp).fz⟩, h.ap, h.ge⟩
/-- A matrix in memory: r rows of c cells that F gives. -/
def RdM (w : World) (r c : Nat) (a : Option Addr) (cap : Nat) (F : Nat → Nat → Dy) : Prop := RdE w (.slice a (r * c) cap) Dy.cs 5 (cellsTo c F (r * c))
theorem RdM.call {w w' : World} {r c : Nat} {a : Option Addr} {cap : Nat} {F : Nat → Nat → Dy} (h : RdM w r c a cap F) (hb : Below w.heap.size w w') : RdM w' r c a cap F := RdE.below h hb rfl
theorem RdM.at {w : World} {r c : Nat} {a : Option Addr} {cap : Nat} {F : Nat → Nat → Dy} (h : RdM w r c a cap F) {i j : Nat} (hi : i < r) (hj : j < c) :
    ∃ b off, a = some ⟨b, off, none⟩ ∧ ∀ t u, t < 5 → (F i j).cs[t]? = some u → w.cell? ⟨b, off + ((i * c + j) * 5 + t), none⟩ = some u := by
  have hlt := cell_in hi hj
  rcases RdE.cases0 Dy.len h with ⟨h0, _⟩ | ⟨_, b, off, cap2, e, _, _, _, hc⟩
  · have := congrArg List.length h0
    rw [cellsTo_len] at this
    simp at this; omega
  · injection e with e1 e2 e3
    subst e1
    refine ⟨b, off, rfl, fun t u ht hu => hc (i * c + j) (by rw [cellsTo_len]; exact hlt) t u ht ?_⟩
    rw [cellsTo_get F hi hj]; exact hu
set_option maxHeartbeats 4000000 in
theorem impl_at_ok (r c i j : Nat) (a : Option Addr) (cap : Nat) (F : Nat → Nat → Dy) (w : World) (hr : r ≤ 32) (hc : c ≤ 32) (h : RdM w r c a cap F) (hi : i < r) (hj : j < c) :
    Calls Try.prog 33 #[.agg #[.int .i64 (r : Int), .int .i64 (c : Int), .slice a (r * c) cap], .int .i64 (i : Int), .int .i64 (j : Int)] w fun e w' => e = .returned (F i j).v ∧ Below w.heap.size w w' := by
  have S0 := Lib.hid (((Sb.nil w).push [.int .i64 (r : Int), .int .i64 (c : Int), .slice a (r * c) cap] 38 rfl).push [.int .i64 0, .int .i64 0, .int .i64 0, .int .i64 0, .int .i64 0] 60 (g := w.heap.size + 1) (by simp))
  have hb : Below w.heap.size w ((w.alloc (.cells #[.int .i64 (r : Int), .int .i64 (c : Int), .slice a (r * c) cap] 38)).alloc (.cells #[.int .i64 0, .int .i64 0, .int .i64 0, .int .i64 0, .int .i64 0] 60)) := (by repeat (first | exact Below.refl _ _ | assumption | refine Below.drew ?_ | refine below_drewN ?_ _ | refine Below.alloc ?_ (by first | omega | (simp <;> omega)) _ | refine Below.setCell ?_ (by first | omega | (simp <;> omega)) _ | refine Below.trans ?_ (Below.mono (by assumption) (by first | omega | (simp <;> omega)))))
  have h2 := h.call hb
  obtain ⟨b, off, rfl, hcell⟩ := h2.at hi hj
  have hlt := cell_in hi hj
  have hm : r * c ≤ 32 * 32 := Nat.mul_le_mul hr hc
  obtain ⟨n, hn⟩ : ∃ n, n = r * c := ⟨_, rfl⟩
  rw [← hn] at hlt hm S0 hb hcell ⊢
  obtain ⟨p, hp⟩ : ∃ p, p = i * c := ⟨_, rfl⟩
  have hpi : (i : Int) * (c : Int) = (p : Int) := by rw [hp]; simp
  rw [← hp] at hcell hlt
  obtain ⟨t, ht⟩ : ∃ t, t = p + j := ⟨_, rfl⟩
  have hti : (p : Int) + (j : Int) = (t : Int) := by omega
  rw [← ht] at hcell hlt
  have w1 : IntKind.i64.wrap (p : Int) = (p : Int) := IntWalk.i64_in _ (by omega)
  have w2 : IntKind.i64.wrap (t : Int) = (t : Int) := IntWalk.i64_in _ (by omega)
  have i1 : (t : Int) < (n : Int) := by omega
  have i2 : (0 : Int) ≤ (t : Int) := by omega
  clear hn hp ht h h2 hm hi hj hr hc hb
  generalize F i j = D at *
  obtain ⟨⟨da, db, dc, dd⟩, de⟩ := D
  have k0 := hcell 0 _ (by decide) rfl
  have k1 := hcell 1 _ (by decide) rfl
  have k2 := hcell 2 _ (by decide) rfl
  have k3 := hcell 3 _ (by decide) rfl
  have k4 := hcell 4 _ (by decide) rfl
  clear hcell
  rw [Nat.add_zero] at k0
  rw [← Nat.add_assoc] at k1 k2 k3 k4
  dsimp only at k0 k1 k2 k3 k4
  obtain ⟨⟨a0, a1, a2, a3, a4⟩, f0, f1, f2, f3, f4⟩ := S0.out.head.c5
  obtain ⟨⟨b0, b1, b2⟩, -⟩ := (S0.out.at 1 rfl).c3
  clear S0
  go_enter Try.func33, Try.ntmps33
  go_wp2_with fail
  refine bodyPost_ret (v := .agg #[.int .i64 da, .int .i64 db, .int .i64 dc, .int .i64 dd, .int .i64 (de : Int)]) (by simp [results, Try.results33, go_sem]) rfl ⟨rfl, (by repeat (first | exact Below.refl _ _ | assumption | refine Below.drew ?_ | refine below_drewN ?_ _ | refine Below.alloc ?_ (by first | omega | (simp <;> omega)) _ | refine Below.setCell ?_ (by first | omega | (simp <;> omega)) _ | refine Below.trans ?_ (Below.mono (by assumption) (by first | omega | (simp <;> omega)))))⟩
set_option maxHeartbeats 8000000 in
theorem spec_EqualMatrices_ok (r c : Nat) (a b : Option Addr) (n ca cb : Nat) (xs : List Dy) (w : World) (hn : n = xs.length) (h1 : RdE w (.slice a n ca) Dy.cs 5 xs) (h2 : RdE w (.slice b n cb) Dy.cs 5 xs) (hl : n ≤ 2000) :
    Calls Try.prog 14 #[.agg #[.int .i64 (r : Int), .int .i64 (c : Int), .slice a n ca], .agg #[.int .i64 (r : Int), .int .i64 (c : Int), .slice b n cb]] w fun e w' => e = .returned (.bool true) ∧ Below w.heap.size w w' := by
  have S0 := Lib.hid (((Sb.nil w).push [.int .i64 (r : Int), .int .i64 (c : Int), .slice a n ca] 38 rfl).push [.int .i64 (r : Int), .int .i64 (c : Int), .slice b n cb] 38 (g := w.heap.size + 1) (by simp))
  have H1 := Lib.hid h1
  have H2 := Lib.hid h2
  have HN := Lib.hid hn
  obtain ⟨⟨a0, a1, a2⟩, -⟩ := S0.out.head.c3
  obtain ⟨⟨b0, b1, b2⟩, -⟩ := (S0.out.at 1 rfl).c3
  clear h1 h2 hn
  go_enter Try.func14, Try.ntmps14
  go_wp2_with fail
  clear a0 a1 a2 b0 b1 b2
  generalize ((w.alloc (.cells #[.int .i64 (r : Int), .int .i64 (c : Int), .slice a n ca] 38)).alloc (.cells #[.int .i64 (r : Int), .int .i64 (c : Int), .slice b n cb] 38)) = w1 at *
  go_loopw [30] (fun o wr => ∃ k : Nat, k ≤ n ∧ o = .int .i64 (k : Int) ∧ Hid (Sb w.heap.size w wr [(w.heap.size + 1, [.int .i64 (r : Int), .int .i64 (c : Int), .slice b n cb]), (w.heap.size, [.int .i64 (r : Int), .int .i64 (c : Int), .slice a n ca])])) (fun o _ => n - (intOf o).toNat)
  case atStart => exact ⟨0, Nat.zero_le _, rfl, S0⟩
  case round =>
    clear S0
    obtain ⟨k, hk, rfl, hS⟩ := hrel
    by_cases hlt : k < n
    · have i1 : (k : Int) < (n : Int) := by omega
      have i2 : (0 : Int) ≤ (k : Int) := by omega
      have R1 := RdE.below H1.out hS.out.bel rfl
      have R2 := RdE.below H2.out hS.out.bel rfl
      rcases RdE.cases0 Dy.len R1 with ⟨h0, _⟩ | ⟨_, ba, oa, cap, e, _, _, _, hca⟩
      · have := HN.out; rw [h0] at this; simp at this; omega
      injection e with e1 e2 e3
      subst e1
      rcases RdE.cases0 Dy.len R2 with ⟨h0, _⟩ | ⟨_, bb, ob, cap2, e, _, _, _, hcb⟩
      · have := HN.out; rw [h0] at this; simp at this; omega
      injection e with e1 e4 e5
      subst e1
      have hkx : k < xs.length := by rw [← HN.out]; exact hlt
      have ka0 := hca k hkx 0 _ (by decide) rfl; have ka1 := hca k hkx 1 _ (by decide) rfl; have ka2 := hca k hkx 2 _ (by decide) rfl; have ka3 := hca k hkx 3 _ (by decide) rfl; have ka4 := hca k hkx 4 _ (by decide) rfl
      have kb0 := hcb k hkx 0 _ (by decide) rfl; have kb1 := hcb k hkx 1 _ (by decide) rfl; have kb2 := hcb k hkx 2 _ (by decide) rfl; have kb3 := hcb k hkx 3 _ (by decide) rfl; have kb4 := hcb k hkx 4 _ (by decide) rfl
      generalize xs[k] = D at *
      obtain ⟨⟨da, db, dc, dd⟩, de⟩ := D
      rw [Nat.add_zero] at ka0 kb0
      rw [← Nat.add_assoc] at ka1 ka2 ka3 ka4 kb1 kb2 kb3 kb4
      dsimp only at ka0 ka1 ka2 ka3 ka4 kb0 kb1 kb2 kb3 kb4
      obtain ⟨⟨a0, a1, a2⟩, -⟩ := hS.out.head.c3
      obtain ⟨⟨b0, b1, b2⟩, -⟩ := (hS.out.at 1 rfl).c3
      clear hca hcb R1 R2 hkx e2 e3 e4 e5 a0 a1 b0 b1
      have X := Lib.hid hS.out
      clear hS
      go_wp2_with fail
      go_quiet (fail)
      go_wp2_with fail
      go_roundw
      case rel => exact ⟨k + 1, by omega, by go_num, (show Sb _ _ _ _ from X.out.drewN nq)⟩
      case measure => simp [intOf]; omega
    · have i1 : ¬ (k : Int) < (n : Int) := by omega
      go_wp2_with fail
      go_ret
      exact ⟨rfl, hS.out.bel⟩
end Go.Proofs.Yteimcfbliigjmaa
