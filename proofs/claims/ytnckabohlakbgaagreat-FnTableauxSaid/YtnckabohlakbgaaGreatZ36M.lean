/- What the law about tableaux asks: plain, and the two products of matrices. -/
import Derived.Test.YtnckabohlakbgaaGreatZ34Gm4
import Derived.Test.YtnckabohlakbgaaGreatZ35Dy18
import Derived.Test.YtnckabohlakbgaaGreatZ24M
import Derived.Test.YtnckabohlakbgaaGreatZ21M
import Derived.Test.YtnckabohlakbgaaGreatZ22M
import Derived.Test.YtnckabohlakbgaaGreatZ14M
import Derived.Test.YtnckabohlakbgaaGreatZ05M
import Derived.Test.YtnckabohlakbgaaGreatZ12M
import Derived.BigRegion
import Derived.BigQuiet
namespace Go.Proofs.YtnckabohlakbgaaGreat
set_option linter.unusedSimpArgs false
set_option linter.unusedVariables false
set_option linter.unnecessarySimpa false
set_option maxRecDepth 200000
open Go.ChangeShapes Go.WideShapes Go.ChangeAt Go.RowKit

theorem tn_pes (L : List PN) : (pes L).map tn = L := by
  unfold pes
  rw [List.map_map]
  conv => rhs; rw [← List.map_id L]
  exact List.map_congr_left fun a _ => tn_e a
/-- The parts of a Clifford circuit's tableau. -/
structure TabParts (d : Circ) (n : Nat) (X Z : List PN) : Prop where
  sym : Sym n X Z
  tof : tofG d = some ⟨(n : Int), pes X, pes Z⟩
  inv : invG ⟨(n : Int), pes X, pes Z⟩ = some ⟨(n : Int), pes (invXs X Z n n), pes (invZs X Z n n)⟩
  cmp : cmpG ⟨(n : Int), pes X, pes Z⟩ ⟨(n : Int), pes (invXs X Z n n), pes (invZs X Z n n)⟩ = some ⟨(n : Int), pes (idPX n), pes (idPZ n)⟩
  idt : idTab (n : Int) = some ⟨(n : Int), pes (idPX n), pes (idPZ n)⟩
  val : tabB ⟨(n : Int), pes X, pes Z⟩ = true
  img : ∀ q : PN, PNn n q → imgG ⟨(n : Int), pes X, pes Z⟩ q.e = some (imgN X Z q n).e
theorem pau_of {n : Nat} {q : PN} (h : PNn n q) : PauOk (n : Int) q.e := by
  have hp : ((2 : Int) ^ n) = ((2 ^ n : Nat) : Int) := by push_cast; rfl
  have h1 := h.p; have h2 := h.x; have h3 := h.z
  unfold PauOk PN.e
  rw [Int.toNat_natCast, hp]
  dsimp only
  omega
theorem tab_parts {d : Circ} {n : Nat} (h : clifB d = true) (hn : d.n = (n : Int)) : TabParts d n (tofX n d.gs d.gs.length) (tofZ n d.gs d.gs.length) := by
  have S := tof_sym h hn d.gs.length (Nat.le_refl _)
  obtain ⟨c1, c2⟩ := S.inv_right
  have ht : tofG d = some ⟨(n : Int), pes (tofX n d.gs d.gs.length), pes (tofZ n d.gs d.gs.length)⟩ := by
    unfold tofG
    rw [if_pos h, hn, Int.toNat_natCast]
  generalize tofX n d.gs d.gs.length = X at *
  generalize tofZ n d.gs d.gs.length = Z at *
  refine ⟨S, ht, ?_, ?_, ?_, decide_eq_true S.tabOk, fun q hq => ?_⟩
  · unfold invG
    rw [if_pos S.tabOk, tn_pes, tn_pes, Int.toNat_natCast]
  · rw [cmpG_some S.tabOk S.inv.tabOk rfl]
    dsimp only
    rw [tn_pes, tn_pes, tn_pes, tn_pes, Int.toNat_natCast, c1, c2]
  · have h1 := S.m1; have h5 := S.m5
    unfold idTab
    rw [if_pos (by simp [inB]; omega)]
    unfold idT
    rw [Int.toNat_natCast, idX_pes, idZ_pes]
  · unfold imgG
    rw [if_pos ⟨S.tabOk, pau_of hq⟩, tn_pes, tn_pes, tn_e, Int.toNat_natCast]
theorem img_n {n : Nat} {X Z : List PN} (S : Sym n X Z) (q : PN) : PNn n (imgN X Z q n) := by
  have a1 := imgN_lt S.ltx S.ltz q n
  exact ⟨(S.okN q n).p, a1.1, a1.2⟩
/-- The cells of an operator's matrix. -/
def pmD (n : Nat) (q : PN) (i j : Nat) : Dy := cod (cellU n q i j n)
theorem pmD_nrm (n : Nat) (q : PN) : pmD n q = fun i j => nrm (pmN n q i j) 0 := by funext i j; exact cod_nrm _
section
variable {d : Circ} {n : Nat}
/-- The cells of both products. -/
def bothD (n : Nat) (gs : List E3) (q : PN) (i j : Nat) : Dy := nrm (mm (2 ^ n) (opN n gs gs.length) (pmN n q) i j) (opH gs gs.length)
theorem mul_left (h : clifB d = true) (hn : d.n = (n : Int)) (h3 : n ≤ 3) (hl : d.gs.length ≤ 9) (q : PN) (w : World) (a b : Option Addr) (ca cb : Nat) (h1 : RdM w (2 ^ n) (2 ^ n) a ca (opF n d.gs d.gs.length)) (h2 : RdM w (2 ^ n) (2 ^ n) b cb (pmD n q)) :
    Calls Tryz.prog 18 #[.agg #[.int .i64 ((2 ^ n : Nat) : Int), .int .i64 ((2 ^ n : Nat) : Int), .slice a (2 ^ n * 2 ^ n) ca], .agg #[.int .i64 ((2 ^ n : Nat) : Int), .int .i64 ((2 ^ n : Nat) : Int), .slice b (2 ^ n * 2 ^ n) cb]] w fun e w' => MatAns w (2 ^ n) (2 ^ n) (bothD n d.gs q) e w' := by
  have g1 := opF_le h hn h3 hl (k := d.gs.length) (Nat.le_refl _)
  have g2 : ∀ i j, i < 2 ^ n → j < 2 ^ n → (pmN n q i j).le 1 := fun i j _ _ => codN_le _
  have hh := opH_le d.gs d.gs.length
  have hS := num_sums (2 ^ n) (opN n d.gs d.gs.length) (pmN n q) (opH d.gs d.gs.length) 0 512 1 (pow3 h3) g1 g2 (by decide) (by decide) (by decide) (by decide) (by decide) (by omega)
  rw [pmD_nrm] at h2
  exact impl_MulMatrix_ok (2 ^ n) (2 ^ n) (2 ^ n) _ _ _ _ w a b ca cb (dim_pow (by omega)) (dim_pow (by omega)) (dim_pow (by omega)) hS h1 h2 (num_cells g1 (by decide) (by omega)) (num_cells g2 (by decide) (by omega))
theorem mul_right (h : clifB d = true) (hn : d.n = (n : Int)) (h3 : n ≤ 3) (hl : d.gs.length ≤ 9) (q : PN) (hq : PNn n q) (w : World) (a b : Option Addr) (ca cb : Nat) (h1 : RdM w (2 ^ n) (2 ^ n) a ca (pmD n (imgN (tofX n d.gs d.gs.length) (tofZ n d.gs d.gs.length) q n))) (h2 : RdM w (2 ^ n) (2 ^ n) b cb (opF n d.gs d.gs.length)) :
    Calls Tryz.prog 18 #[.agg #[.int .i64 ((2 ^ n : Nat) : Int), .int .i64 ((2 ^ n : Nat) : Int), .slice a (2 ^ n * 2 ^ n) ca], .agg #[.int .i64 ((2 ^ n : Nat) : Int), .int .i64 ((2 ^ n : Nat) : Int), .slice b (2 ^ n * 2 ^ n) cb]] w fun e w' => MatAns w (2 ^ n) (2 ^ n) (bothD n d.gs q) e w' := by
  have g2 := opF_le h hn h3 hl (k := d.gs.length) (Nat.le_refl _)
  have hc := op_conj h hn h3 hq d.gs.length (Nat.le_refl _)
  generalize imgN (tofX n d.gs d.gs.length) (tofZ n d.gs d.gs.length) q n = q2 at *
  have g1 : ∀ i j, i < 2 ^ n → j < 2 ^ n → (pmN n q2 i j).le 1 := fun i j _ _ => codN_le _
  have hh := opH_le d.gs d.gs.length
  have hS := num_sums (2 ^ n) (pmN n q2) (opN n d.gs d.gs.length) 0 (opH d.gs d.gs.length) 1 512 (pow3 h3) g1 g2 (by decide) (by decide) (by decide) (by decide) (by decide) (by omega)
  rw [pmD_nrm] at h1
  refine (impl_MulMatrix_ok (2 ^ n) (2 ^ n) (2 ^ n) _ _ _ _ w a b ca cb (dim_pow (by omega)) (dim_pow (by omega)) (dim_pow (by omega)) hS h1 h2 (num_cells g1 (by decide) (by omega)) (num_cells g2 (by decide) (by omega))).mono ?_
  rintro e w' ⟨a', cap', he, hr, hb⟩
  refine ⟨a', cap', he, ?_, hb⟩
  have ec : cellsTo (2 ^ n) (bothD n d.gs q) (2 ^ n * 2 ^ n) = cellsTo (2 ^ n) (fun i j => nrm (sumR (fun l => (pmN n q2 i l).mul (opN n d.gs d.gs.length l j)) (2 ^ n)) (0 + opH d.gs d.gs.length)) (2 ^ n * 2 ^ n) := by
    unfold cellsTo
    refine List.map_congr_left fun t ht => ?_
    rw [List.mem_range] at ht
    have e1 := hc (t / 2 ^ n) (t % 2 ^ n) (Nat.div_lt_of_lt_mul ht) (Nat.mod_lt _ (Nat.two_pow_pos n))
    unfold bothD
    rw [e1, Nat.zero_add]
    rfl
  unfold RdM at hr ⊢
  rw [ec]
  exact hr
end
end Go.Proofs.YtnckabohlakbgaaGreat
namespace Go.Proofs.YtnckabohlakbgaaGreat
set_option linter.unusedSimpArgs false
set_option linter.unusedVariables false
set_option linter.unnecessarySimpa false
set_option maxRecDepth 200000
open Go.ChangeShapes Go.WideShapes Go.ChangeAt Go.RowKit

set_option maxHeartbeats 1000000 in
theorem laws_qPaulis_ok (xs : List E3) (u v : Value) (w : World) (h0 : RdE w u E3.cs 3 xs) (h1 : RdE w v E3.cs 3 xs) (hl : xs.length ≤ 1000000) :
    Calls Tryz.prog 37 #[u, v] w fun e w' => e = .returned (.bool true) ∧ Below w.heap.size w w' := by
  obtain ⟨A, c, rfl, HA⟩ := gate_at h0
  obtain ⟨A2, c2, rfl, HB⟩ := gate_at h1
  have i0 : (xs.length : Int) = (xs.length : Int) := rfl
  clear h0 h1 i0
  go_enter Tryz.func37, Tryz.ntmps37
  go_wp2_with fail
  go_loopw [13] (fun o wr => ∃ k : Nat, k ≤ xs.length ∧ o = .int .i64 (k : Int) ∧ Hid (Below w.heap.size w wr)) (fun o _ => xs.length - (intOf o).toNat)
  case atStart => exact ⟨0, Nat.zero_le _, rfl, (show Below _ _ _ from Below.refl _ _)⟩
  case round =>
    obtain ⟨k, hk, rfl, hB⟩ := hrel
    by_cases hlt : k < xs.length
    · have i1 : (k : Int) < (xs.length : Int) := by omega
      have i3 : (0 : Int) ≤ (k : Int) := by omega
      obtain ⟨b0, off, rfl, hb0, x0, x1, x2⟩ := HA.out k hlt
      obtain ⟨b2, off2, rfl, hb2, y0, y1, y2⟩ := HB.out k hlt
      generalize xs.getD k ⟨0, 0, 0⟩ = g at *
      obtain ⟨ga, gb, gc⟩ := g
      dsimp only at x0 x1 x2 y0 y1 y2
      replace x0 := (hB.out.cell hb0).trans x0; replace x1 := (hB.out.cell hb0).trans x1; replace x2 := (hB.out.cell hb0).trans x2
      replace y0 := (hB.out.cell hb2).trans y0; replace y1 := (hB.out.cell hb2).trans y1; replace y2 := (hB.out.cell hb2).trans y2
      go_wp2_with fail
      go_quiet (fail)
      go_wp2_with fail
      go_roundw
      case rel => exact ⟨k + 1, by omega, by go_num, (show Below _ _ _ from below_drewN hB.out nq)⟩
      case measure => simp [intOf]; omega
    · have i1 : ¬ (k : Int) < (xs.length : Int) := by omega
      go_wp2_with fail
      go_ret
      exact ⟨rfl, hB.out⟩
set_option maxHeartbeats 1000000 in
theorem laws_qTableau_ok (n : Int) (xs zs : List E3) (u0 u1 v0 v1 : Value) (w : World) (h0 : RdE w u0 E3.cs 3 xs) (h1 : RdE w u1 E3.cs 3 zs) (k0 : RdE w v0 E3.cs 3 xs) (k1 : RdE w v1 E3.cs 3 zs) (lx : xs.length ≤ 1000000) (lz : zs.length ≤ 1000000) :
    Calls Tryz.prog 10 #[.agg #[.int .i64 n, u0, u1], .agg #[.int .i64 n, v0, v1]] w fun e w' => e = .returned (.bool true) ∧ Below w.heap.size w w' := by
  have H0 := Lib.hid h0; have H1 := Lib.hid h1; have G0 := Lib.hid k0; have G1 := Lib.hid k1
  obtain ⟨a0, c0, rfl, _⟩ := h0.form
  obtain ⟨a1, c1, rfl, _⟩ := h1.form
  obtain ⟨a2, c2, rfl, _⟩ := k0.form
  obtain ⟨a3, c3, rfl, _⟩ := k1.form
  clear h0 h1 k0 k1
  have X := Lib.hid (((Sb.nil w).push [.int .i64 n, .slice a0 xs.length c0, .slice a1 zs.length c1] 29 rfl).push [.int .i64 n, .slice a2 xs.length c2, .slice a3 zs.length c3] 29 (g := w.heap.size + 1) (by simp))
  go_enter Tryz.func10, Tryz.ntmps10
  go_wp2_with fail
  generalize ((w.alloc (.cells #[.int .i64 n, .slice a0 xs.length c0, .slice a1 zs.length c1] 29)).alloc (.cells #[.int .i64 n, .slice a2 xs.length c2, .slice a3 zs.length c3] 29)) = w1 at *
  refine (laws_qPaulis_ok xs _ _ _ (RdE.below H0.out X.out.bel rfl) (RdE.below G0.out X.out.bel rfl) lx).mono ?_; rintro e w2 ⟨rfl, hb⟩
  replace X := Lib.hid (X.out.call hb)
  clear hb
  obtain ⟨⟨t0, t1, t2⟩, -⟩ := X.out.head.c3
  obtain ⟨⟨s0, s1, s2⟩, -⟩ := (X.out.at 1 rfl).c3
  go_wp2_with fail
  refine (laws_qPaulis_ok zs _ _ _ (RdE.below H1.out X.out.bel rfl) (RdE.below G1.out X.out.bel rfl) lz).mono ?_; rintro e w3 ⟨rfl, hb⟩
  have hB := Below.trans X.out.bel (hb.mono X.out.bel.size)
  clear hb t0 t1 t2 s0 s1 s2
  go_wp2_with fail
  go_ret
  exact ⟨rfl, hB⟩
set_option maxHeartbeats 1000000 in
theorem laws_qNumber_ok (zs : List Int) (cv : Value) (w : World) (h : RdB w cv zs) (hr : ∀ z ∈ zs, 0 ≤ z ∧ z ≤ 255) (hl : zs.length ≤ 9223372036854775807) :
    Calls Tryz.prog 15 #[cv] w fun e w' => ∃ n : Nat, e = .returned (.int .i64 (n : Int)) ∧ n < 99991 ∧ Below w.heap.size w w' := by
  obtain ⟨A, c, rfl, HA⟩ := byte_at h hr
  clear h hr
  go_enter Tryz.func15, Tryz.ntmps15
  go_wp2_with fail
  go_loopw [3, 8] (fun s3 s8 wr => ∃ k n : Nat, k ≤ zs.length ∧ s8 = .int .i64 (k : Int) ∧ s3 = .int .i64 (n : Int) ∧ n < 99991 ∧ Hid (wr = w)) (fun _ s8 _ => zs.length - (intOf s8).toNat)
  case atStart => exact ⟨0, 0, Nat.zero_le _, rfl, rfl, by omega, (show _ = _ from rfl)⟩
  case round =>
    obtain ⟨k, n, hk, rfl, rfl, hn, hw⟩ := hrel
    obtain rfl : wr = w := hw.out
    clear hw
    by_cases hlt : k < zs.length
    · have i1 : (k : Int) < (zs.length : Int) := by omega
      obtain ⟨b0, off, y, rfl, hb0, x0, y0, y1⟩ := HA.out k hlt
      obtain ⟨m, rfl⟩ : ∃ m : Nat, y = (m : Int) := ⟨y.toNat, by omega⟩
      have e1 : IntKind.i64.wrap ((n : Int) * 31) = (n : Int) * 31 := IntWalk.i64_in _ (by omega)
      have e2 : IntKind.i64.wrap (m : Int) = (m : Int) := IntWalk.i64_in _ (by omega)
      have e3 : IntKind.i64.wrap ((n : Int) * 31 + (m : Int)) = (n : Int) * 31 + (m : Int) := IntWalk.i64_in _ (by omega)
      have i5 : (0 : Int) ≤ (n : Int) * 31 + (m : Int) := by omega
      go_wp2_with fail
      go_roundw
      case rel => exact ⟨k + 1, (n * 31 + m) % 99991, by omega, by go_num, congrArg (Value.int .i64) (show ((n : Int) * 31 + (m : Int)) % 99991 = (((n * 31 + m) % 99991 : Nat) : Int) from by omega), Nat.mod_lt _ (by omega), (show True from trivial)⟩
      case measure => simp [intOf]; omega
    · have i1 : ¬ (k : Int) < (zs.length : Int) := by omega
      go_wp2_with fail
      go_ret
      exact ⟨n, rfl, hn, Below.refl _ _⟩
end Go.Proofs.YtnckabohlakbgaaGreat
namespace Go.Proofs.YtnckabohlakbgaaGreat
set_option linter.unusedSimpArgs false
set_option linter.unusedVariables false
set_option linter.unnecessarySimpa false
set_option maxRecDepth 200000
open Go.ChangeShapes Go.WideShapes Go.ChangeAt Go.RowKit

theorem grown_trans1 {w0 w w' : World} {r : Option Nat} (h : w0.grownBy w r) (hg : w.grownBy w' r) : w0.grownBy w' r :=
  ⟨hg.os.trans h.os, hg.tape.trans h.tape, hg.output.trans h.output, Nat.le_trans h.size hg.size, fun k hk hn => (hg.block k (Nat.lt_of_lt_of_le hk h.size) hn).trans (h.block k hk hn)⟩
/-- What is written above another world's end does not count there. -/
theorem grown_above {w0 w w' : World} {r s : Option Nat} (h : w0.grownBy w r) (hg : w.grownBy w' s) (hs : ∀ k, s = some k → w0.heap.size ≤ k) : w0.grownBy w' r :=
  ⟨hg.os.trans h.os, hg.tape.trans h.tape, hg.output.trans h.output, Nat.le_trans h.size hg.size, fun k hk hn => (hg.block k (Nat.lt_of_lt_of_le hk h.size) (fun e => by have := hs k e.symm; omega)).trans (h.block k hk hn)⟩
theorem cell_kept1 {w w' : World} {r : Option Nat} {a : Addr} {u : Value} (h : w.cell? a = some u) (hg : w.grownBy w' r) (hn : some a.block ≠ r) : w'.cell? a = some u := by
  rw [World.cell?_of_block (w := w) (w' := w') (a := a) (hg.block a.block (World.block_lt_of_cell? _ _ h) hn)]
  exact h
theorem rdB_kept {w w' : World} {v : Value} {zs : List Int} {r : Option Nat} (h : RdB w v zs) (hg : w.grownBy w' r) (hn : zs.length ≠ 0 → ∀ g, v.ownBlock = some g → some g ≠ r) : RdB w' v zs := by
  refine ⟨h.1, ?_⟩
  rcases h.2 with h0 | ⟨g, off, cap, e, hb, h1, h2, hc⟩
  · exact .inl h0
  · by_cases hz : zs.length = 0
    · exact .inl ⟨⟨_, _, by rw [e, hz]⟩, hz⟩
    · refine .inr ⟨g, off, cap, e, Nat.lt_of_lt_of_le hb hg.size, h1, h2, fun j u hj => ?_⟩
      exact cell_kept1 (hc j u hj) hg (hn hz g (by rw [e]; rfl))
theorem Cur.kept {w0 w w' : World} {b N0 N : Nat} {zs : List Int} {cv : Value} {r : Option Nat} (h0 : Cur w0 b zs cv N0) (h : Cur w b zs cv N) (hg : w.grownBy w' r) (hr : ∀ k, r = some k → w0.heap.size ≤ k) : Cur w' b zs cv N := by
  obtain ⟨x, s, hle, hc⟩ := h
  have hbl := h0.lt
  obtain ⟨_, _, _, h0c⟩ := h0
  have hne : some b ≠ r := fun e => by have := hr b e.symm; omega
  have hl := World.block_lt_of_cell? _ _ hc.c0
  have hn : zs.length ≠ 0 → ∀ g, cv.ownBlock = some g → some g ≠ r := by
    intro hz g e e9
    rcases h0c.rd.2 with ⟨_, h1⟩ | ⟨g2, off, cap, e2, hb, _⟩
    · exact absurd h1 hz
    · rw [e2] at e
      have e3 : g2 = g := by injection e
      have := hr g e9.symm
      omega
  exact ⟨x, s, hle, rdB_kept hc.rd hg hn, cell_kept1 hc.c0 hg hne, cell_kept1 hc.c1 hg hne, cell_kept1 hc.c2 hg hne, (World.frozen?_of_block (w := w) (hg.block b hl hne)).trans hc.f1, (World.frozen?_of_block (w := w) (hg.block b hl hne)).trans hc.f2, hc.off, hc.sm⟩
structure Dw (b N : Nat) (zs : List Int) (cv : Value) (W w : World) (L : List (Nat × List Value)) : Prop where
  c0 : ∃ N0, Cur W b zs cv N0
  cur : Cur w b zs cv N
  gr : W.grownBy w (some b)
  bx : ∀ p ∈ L, Bw w p.1 p.2
  ap : L.Pairwise (fun p q => p.1 ≠ q.1)
  ge : ∀ p ∈ L, W.heap.size ≤ p.1
section
variable {b N M : Nat} {zs : List Int} {cv : Value} {W w w' : World} {L L2 : List (Nat × List Value)} {g : Nat} {us : List Value}
theorem Dw.lb (h : Dw b N zs cv W w L) : b < W.heap.size := by obtain ⟨_, h0⟩ := h.c0; exact h0.lt
theorem Dw.start (h : Cur w b zs cv N) : Dw b N zs cv w w [] := ⟨⟨_, h⟩, h, cur_grown_refl w _, by simp, by simp, by simp⟩
theorem Dw.call (h : Dw b N zs cv W w L) (hb : Below w.heap.size w w') : Dw b N zs cv W w' L :=
  ⟨h.c0, h.cur.call hb, grown_below0 h.gr hb, fun p hp => (h.bx p hp).call hb, h.ap, h.ge⟩
theorem Dw.drew (h : Dw b N zs cv W w L) : Dw b N zs cv W w.drew L := h.call (Below.drew (Below.refl _ _))
theorem Dw.alloc (h : Dw b N zs cv W w L) (X : Obj) : Dw b N zs cv W (w.alloc X) L := h.call (Below.alloc (Below.refl _ _) (Nat.le_refl _) X)
theorem Dw.push (h : Dw b N zs cv W w L) (us : List Value) (t : TypeId) (hg : w.heap.size = g) : Dw b N zs cv W (w.alloc (.cells us.toArray t)) ((g, us) :: L) := by
  have ha := h.alloc (.cells us.toArray t)
  refine ⟨h.c0, ha.cur, ha.gr, fun p hp => ?_, List.pairwise_cons.2 ⟨fun q hq e => ?_, h.ap⟩, fun p hp => ?_⟩
  · rcases List.mem_cons.1 hp with rfl | hp
    · exact Bw.new w us t hg
    · exact ha.bx p hp
  · have := (h.bx q hq).lt
    dsimp only at e; omega
  · rcases List.mem_cons.1 hp with rfl | hp
    · have := h.gr.size; dsimp only; omega
    · exact h.ge p hp
theorem Dw.step (h : Dw b N zs cv W w L) (hc : Cur w' b zs cv M) (hg : w.grownBy w' (some b)) : Dw b M zs cv W w' L := by
  have hb := h.lb
  exact ⟨h.c0, hc, grown_trans1 h.gr hg, fun p hp => (h.bx p hp).kept hg (fun e => by have := h.ge p hp; injection e with e; omega), h.ap, h.ge⟩
theorem Dw.kept {r : Option Nat} (h : Dw b N zs cv W w L) (hg : w.grownBy w' r) (hr : ∀ k, r = some k → W.heap.size ≤ k ∧ ∀ p ∈ L, p.1 ≠ k) : Dw b N zs cv W w' L := by
  obtain ⟨_, h0⟩ := h.c0
  exact ⟨h.c0, Cur.kept h0 h.cur hg (fun k hk => (hr k hk).1), grown_above h.gr hg (fun k hk => (hr k hk).1), fun p hp => (h.bx p hp).kept hg (fun e => (hr p.1 e.symm).2 p hp rfl), h.ap, h.ge⟩
theorem Dw.tail {p : Nat × List Value} (h : Dw b N zs cv W w (p :: L)) : Dw b N zs cv W w L := ⟨h.c0, h.cur, h.gr, fun q hq => h.bx q (by simp [hq]), (List.pairwise_cons.1 h.ap).2, fun q hq => h.ge q (by simp [hq])⟩
theorem Dw.head (h : Dw b N zs cv W w ((g, us) :: L)) : Bw w g us := h.bx (g, us) (by simp)
theorem Dw.at (h : Dw b N zs cv W w L) (i : Nat) (hi : L[i]? = some (g, us)) : Bw w g us := h.bx (g, us) (List.mem_of_getElem? hi)
theorem Dw.perm (h : Dw b N zs cv W w L) (hp : L.Perm L2) : Dw b N zs cv W w L2 := ⟨h.c0, h.cur, h.gr, fun p hm => h.bx p (hp.mem_iff.2 hm), (hp.pairwise_iff (fun h => Ne.symm h)).1 h.ap, fun p hm => h.ge p (hp.mem_iff.2 hm)⟩
theorem Dw.set0 (h : Dw b N zs cv W w ((g, us) :: L)) (k : Nat) (u : Value) : Dw b N zs cv W (w.setCell ⟨g, k, none⟩ u) ((g, us.set k u) :: L) := by
  obtain ⟨h1, h2⟩ := List.pairwise_cons.1 h.ap
  obtain ⟨_, h0⟩ := h.c0
  have hg := h.ge (g, us) (by simp)
  dsimp only at hg
  have q := box_grown w g k u
  refine ⟨h.c0, Cur.kept h0 h.cur q (fun k hk => by injection hk with hk; omega), grown_above h.gr q (fun k hk => by injection hk with hk; omega), fun p hp => ?_, List.pairwise_cons.2 ⟨fun q hq => h1 q hq, h2⟩, fun p hp => ?_⟩
  · rcases List.mem_cons.1 hp with rfl | hp
    · exact h.head.set k u
    · exact (h.bx p (by simp [hp])).other (fun e => h1 p hp e.symm) k u
  · rcases List.mem_cons.1 hp with rfl | hp
    · exact hg
    · exact h.ge p (by simp [hp])
theorem Dw.set1 {p1 : Nat × List Value} (h : Dw b N zs cv W w (p1 :: (g, us) :: L)) (k : Nat) (u : Value) : Dw b N zs cv W (w.setCell ⟨g, k, none⟩ u) (p1 :: (g, us.set k u) :: L) :=
  ((h.perm (List.Perm.swap _ _ _)).set0 k u).perm (List.Perm.swap _ _ _)
/-- A slice of the call's own is not touched by a step of the cursor. -/
theorem own_step {α : Type} {f : α → List Value} {sz B : Nat} {t : TypeId} {v : Value} {xs : List α} (h : OwnE w B t v f sz xs) (hg : w.grownBy w' (some b)) (hb : b < B) : OwnE w' B t v f sz xs :=
  own_other (v' := .slice (some ⟨b, 0, none⟩) 0 0) hg h (fun g e1 e2 => by have e3 : b = g := (by injection e2); have := (World.ownsRow.lt (show w.ownsRow B _ _ v _ _ from h) g e1).1; omega)
end
end Go.Proofs.YtnckabohlakbgaaGreat
