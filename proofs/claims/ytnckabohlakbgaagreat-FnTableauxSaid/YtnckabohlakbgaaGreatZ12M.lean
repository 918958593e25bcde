/- Bytes that are read; the reference's cursor over them (l1Cur): its box. -/
import Derived.Test.YtnckabohlakbgaaGreatZ04M
import Derived.Test.YtnckabohlakbgaaGreatZ05M
import Derived.Test.YtnckabohlakbgaaGreatZ02M
import Derived.BigRegion
namespace Go.Proofs.YtnckabohlakbgaaGreat
set_option linter.unusedSimpArgs false
set_option linter.unusedVariables false
set_option linter.unnecessarySimpa false
set_option maxRecDepth 200000
open Go.ChangeShapes Go.WideShapes Go.ChangeAt Go.RowKit

def RdB (w : World) (v : Value) (zs : List Int) : Prop := Rd w v zs.length 1 (zs.map (Value.int .u8))
def IsBytes (w : World) (v : Value) : Prop := ∃ zs : List Int, RdB w v zs ∧ ∀ z ∈ zs, 0 ≤ z ∧ z ≤ 255
theorem u8_range {n : Int} (h : (Lit.int .u8 n).wf = true) : 0 ≤ n ∧ n ≤ 255 := by
  have h := h
  simp [Lit.wf, IntKind.min, IntKind.max, IntKind.signed, IntKind.bits] at h
  omega
section
variable {H : Type} {enc : TypeId × Value → H} {W : World} {base : Nat} {spare : Nat → Bool} {held : Bool} {r : Reach} {b0 : Nat}
theorem cellBytes_of {n : Nat} {t e : TypeId} {v : Value} {y : DataW H × List MemPlace} (ht : Tryz.prog.underlying t = some (.slice e)) (he : Tryz.prog.underlying e = some (.int .u8)) (hc : Tryz.prog.cellsOf e = 1) (h : DataW.trod enc Tryz.prog W base spare held n t [v] = some y) : IsBytes W v := by
  rcases open_ints ht he hc h with ⟨hv, _⟩ | ⟨a, len, cap, zs, hv, _, hlc, hcm, hzl, _, hcell, hwf⟩
  · simp at hv; subst hv
    exact ⟨[], ⟨rfl, .inl ⟨⟨_, _, rfl⟩, rfl⟩⟩, fun z hz => by cases hz⟩
  · simp at hv; subst hv
    have hle : len ≤ zs.length := by rw [hzl]; split <;> omega
    have hrange : ∀ z ∈ zs.take len, 0 ≤ z ∧ z ≤ 255 := fun z hz => u8_range (hwf z (List.mem_of_mem_take hz))
    have hlen : (zs.take len).length = len := by simp; omega
    rcases Nat.eq_zero_or_pos len with h0 | h0
    · subst h0
      exact ⟨[], ⟨rfl, .inl ⟨⟨_, _, rfl⟩, rfl⟩⟩, fun z hz => by cases hz⟩
    · have c0 := hcell 0 (by omega)
      have hs : a.spot = none := by simpa [Addr.add] using addr_none c0
      obtain ⟨b, off, sp⟩ := a
      simp at hs; subst hs
      refine ⟨zs.take len, ⟨by simp, .inr ⟨b, off, cap, by rw [hlen], World.block_lt_of_cell? _ _ c0, by omega, by simpa [maxLen] using hcm, fun j u hj => ?_⟩⟩, hrange⟩
      have hj' := (List.getElem?_eq_some_iff.1 hj).1
      simp at hj'
      have := hcell j (by omega)
      rw [Addr.add_lit] at this
      rw [this, ← hj]
      have h2 : j < zs.length := by omega
      have h3 : j < len := by omega
      simp [List.getElem?_take, h3, List.getD, List.getElem?_eq_getElem h2]
theorem isBytes_of {v : Value} {d : DataW H} {p : List MemPlace} (hv : Value.okWide Tryz.prog W r b0 22 v) (h : DataW.Trod enc Tryz.prog W base spare held 22 v d p) : IsBytes W v := by
  obtain ⟨fuel, hf⟩ := h
  obtain ⟨cs, hcs, hl⟩ : ∃ c, v.cells.toList = [c] ∧ v = c := by
    obtain ⟨a, n, c, rfl⟩ := okWide_slice Tryz.underlying22 hv
    exact ⟨_, rfl, rfl⟩
  rw [hcs] at hf; subst hl
  exact cellBytes_of Tryz.underlying22 Tryz.underlying5 (by kernel_rfl) hf
end
theorem byte_at {w : World} {v : Value} {zs : List Int} (h : RdB w v zs) (hr : ∀ z ∈ zs, 0 ≤ z ∧ z ≤ 255) : ∃ A c, v = .slice A zs.length c ∧ Hid (∀ k, k < zs.length → ∃ b off y, A = some ⟨b, off, none⟩ ∧ b < w.heap.size ∧ w.cell? ⟨b, off + k, none⟩ = some (.int .u8 y) ∧ 0 ≤ y ∧ y ≤ 255) := by
  rcases h.2 with ⟨⟨a0, c0, rfl⟩, h0⟩ | ⟨b, off, cap, rfl, hb, _, _, hc⟩
  · exact ⟨a0, c0, by rw [h0], show ∀ _, _ from fun k hk => by omega⟩
  · refine ⟨_, cap, rfl, show ∀ _, _ from fun k hk => ⟨b, off, zs[k], rfl, hb, ?_, hr _ (List.getElem_mem hk)⟩⟩
    exact hc k (.int .u8 zs[k]) (by simp [hk])
/-- The cursor's box. -/
structure CurC (w : World) (b : Nat) (zs : List Int) (cv : Value) (a s : Nat) : Prop where
  rd : RdB w cv zs
  c0 : w.cell? ⟨b, 0, none⟩ = some cv
  c1 : w.cell? ⟨b, 1, none⟩ = some (.int .i64 (a : Int))
  c2 : w.cell? ⟨b, 2, none⟩ = some (.int .u64 (s : Int))
  f1 : w.frozen? ⟨b, 1, none⟩ = false
  f2 : w.frozen? ⟨b, 2, none⟩ = false
  off : zs.length ≠ 0 → ∀ g, cv.ownBlock = some g → g ≠ b
  sm : s < 18446744073709551616
theorem box_grown (w : World) (b o : Nat) (u : Value) : w.grownBy (w.setCell ⟨b, o, none⟩ u) (some b) := by
  have q : Below 0 w (w.setCell ⟨b, o, none⟩ u) := Below.setCell (p := ⟨b, o, none⟩) (Below.refl 0 w) (Nat.zero_le _) u
  exact ⟨q.os, q.tape, q.output, q.size, fun k hk hne => Below.heap_setCell _ _ _ k (fun e => hne (by rw [e]))⟩
theorem rdB_grown {w w' : World} {v : Value} {zs : List Int} {b : Nat} (h : RdB w v zs) (hg : w.grownBy w' (some b)) (hn : zs.length ≠ 0 → ∀ g, v.ownBlock = some g → g ≠ b) : RdB w' v zs := by
  refine ⟨h.1, ?_⟩
  rcases h.2 with h0 | ⟨g, off, cap, e, hb, h1, h2, hc⟩
  · exact .inl h0
  · refine .inr ⟨g, off, cap, e, Nat.lt_of_lt_of_le hb hg.size, h1, h2, fun j u hj => ?_⟩
    have hne : g ≠ b := hn (fun h9 => by have := (List.getElem?_eq_some_iff.1 hj).1; simp at this; omega) g (by rw [e]; rfl)
    rw [World.cell?_of_block (w := w) (w' := w') (a := ⟨g, off + j, none⟩) (hg.block g hb (fun e2 => hne (by injection e2)))]
    exact hc j u hj
section
variable {w w' : World} {b a s a2 s2 : Nat} {zs : List Int} {cv : Value}
theorem CurC.call (h : CurC w b zs cv a s) (hb : Below w.heap.size w w') : CurC w' b zs cv a s := by
  have hl := World.block_lt_of_cell? _ _ h.c0
  exact ⟨Rd.below h.rd hb rfl, (hb.cell (World.block_lt_of_cell? _ _ h.c0)).trans h.c0, (hb.cell (World.block_lt_of_cell? _ _ h.c1)).trans h.c1, (hb.cell (World.block_lt_of_cell? _ _ h.c2)).trans h.c2, below_frz hb rfl hl h.f1, below_frz hb rfl hl h.f2, h.off, h.sm⟩
theorem CurC.set1 {z : Int} (h : CurC w b zs cv a s) (hz : z = (a2 : Int)) : CurC (w.setCell ⟨b, 1, none⟩ (.int .i64 z)) b zs cv a2 s := by
  subst hz
  exact ⟨rdB_grown h.rd (box_grown _ _ _ _) h.off, cell_set_other h.c0, World.cell?_setCell_same _ _ _ h.c1, cell_set_other h.c2, by rw [World.frozen?_setCell]; exact h.f1, by rw [World.frozen?_setCell]; exact h.f2, h.off, h.sm⟩
theorem CurC.set2 (h : CurC w b zs cv a s) (hs : s2 < 18446744073709551616) : CurC (w.setCell ⟨b, 2, none⟩ (.int .u64 (s2 : Int))) b zs cv a s2 :=
  ⟨rdB_grown h.rd (box_grown _ _ _ _) h.off, cell_set_other h.c0, cell_set_other h.c1, World.cell?_setCell_same _ _ _ h.c2, by rw [World.frozen?_setCell]; exact h.f1, by rw [World.frozen?_setCell]; exact h.f2, h.off, hs⟩
end
/-- The cursor after at most N steps. -/
def Cur (w : World) (b : Nat) (zs : List Int) (cv : Value) (N : Nat) : Prop := ∃ a s : Nat, a ≤ N ∧ CurC w b zs cv a s
theorem Cur.call {w w' : World} {b N : Nat} {zs : List Int} {cv : Value} (h : Cur w b zs cv N) (hb : Below w.heap.size w w') : Cur w' b zs cv N := by
  obtain ⟨a, s, ha, hc⟩ := h
  exact ⟨a, s, ha, hc.call hb⟩
theorem Cur.le {w : World} {b N M : Nat} {zs : List Int} {cv : Value} (h : Cur w b zs cv N) (hl : N ≤ M) : Cur w b zs cv M := by
  obtain ⟨a, s, ha, hc⟩ := h
  exact ⟨a, s, Nat.le_trans ha hl, hc⟩
theorem u64_in {n : Nat} (h : n < 18446744073709551616) : IntKind.u64.wrap (n : Int) = (n : Int) := by
  have e : IntKind.u64.wrap (n : Int) = (n : Int) % 18446744073709551616 := by
    simp [IntKind.wrap, IntKind.signed, IntKind.bits]
  rw [e]; omega
theorem and_u64_255 (z : Int) : ∃ x : Nat, wrap64 (bits .and .u64 z 255) = (x : Int) ∧ x ≤ 255 := by
  have h : bits .and .u64 z 255 = IntKind.u64.wrap (((BitVec.ofInt 64 z &&& BitVec.ofInt 64 255).toNat : Nat) : Int) := rfl
  rw [BitVec.toNat_and, show (BitVec.ofInt 64 255).toNat = 255 from by decide] at h
  have h2 : (BitVec.ofInt 64 z).toNat &&& 255 ≤ 255 := Nat.and_le_right
  refine ⟨(BitVec.ofInt 64 z).toNat &&& 255, ?_, h2⟩
  rw [h, u64_in (by omega)]
  exact IntWalk.wrap64_in _ ⟨by omega, by omega⟩
theorem cur_grown_refl (w : World) (r : Option Nat) : w.grownBy w r := ⟨rfl, rfl, rfl, Nat.le_refl _, fun _ _ _ => rfl⟩
theorem drew_grown (w : World) (r : Option Nat) : w.grownBy w.drew r := ⟨rfl, rfl, rfl, Nat.le_refl _, fun _ _ _ => rfl⟩
theorem wrap_u64 (x : Int) : ∃ n : Nat, IntKind.u64.wrap x = (n : Int) ∧ n < 18446744073709551616 := by
  have h1 : 0 ≤ x % 18446744073709551616 := Int.emod_nonneg _ (by decide)
  have h2 : x % 18446744073709551616 < 18446744073709551616 := Int.emod_lt_of_pos _ (by decide)
  refine ⟨(x % 18446744073709551616).toNat, ?_, by omega⟩
  have e : IntKind.u64.wrap x = x % 18446744073709551616 := by
    simp [IntKind.wrap, IntKind.signed, IntKind.bits]
  rw [e]; omega
end Go.Proofs.YtnckabohlakbgaaGreat
namespace Go.Proofs.YtnckabohlakbgaaGreat
set_option linter.unusedSimpArgs false
set_option linter.unusedVariables false
set_option linter.unnecessarySimpa false
set_option maxRecDepth 200000
open Go.ChangeShapes Go.WideShapes Go.ChangeAt Go.RowKit

set_option maxHeartbeats 4000000 in
theorem cur_next_any (b N : Nat) (zs : List Int) (cv : Value) (w : World) (h : Cur w b zs cv N) (hN : N ≤ 1000) (hr : ∀ z ∈ zs, 0 ≤ z ∧ z ≤ 255) :
    Calls Tryz.prog 62 #[.pointer (some ⟨b, 0, none⟩)] w fun e w' => ∃ x : Nat, e = .returned (.int .i64 (x : Int)) ∧ x ≤ 255 ∧ Cur w' b zs cv (N + 1) ∧ w.grownBy w' (some b) := by
  obtain ⟨a, s, ha, hc⟩ := h
  obtain ⟨A, c, rfl, hb⟩ := byte_at hc.rd hr
  have HC := Lib.hid hc
  have t0 := hc.c0; have t1 := hc.c1; have t2 := hc.c2; have g1 := hc.f1; have g2 := hc.f2
  clear hc
  go_enter Tryz.func62, Tryz.ntmps62
  by_cases hlt : a < zs.length
  · have i1 : (a : Int) < (zs.length : Int) := by omega
    have i2 : (a : Int) + 1 ≤ (zs.length : Int) := by omega
    obtain ⟨b0, off, y, rfl, hb0, cy, y1, y2⟩ := hb.out a hlt
    have hwy : IntKind.i64.wrap y = y := IntWalk.i64_in _ (by omega)
    clear hb
    obtain ⟨s1, e1, l1⟩ := wrap_u64 ((s : Int) * 6364136223846793005)
    obtain ⟨s2, e2, l2⟩ := wrap_u64 ((s1 : Int) + y)
    obtain ⟨s3, e3, l3⟩ := wrap_u64 ((s2 : Int) + 1442695040888963407)
    have HC3 := Lib.hid ((HC.out.set1 (z := (a : Int) + 1) (a2 := a + 1) (by omega)).set2 l3)
    have G3 := Lib.hid (show w.grownBy ((w.setCell ⟨b, 1, none⟩ (.int .i64 ((a : Int) + 1))).setCell ⟨b, 2, none⟩ (.int .u64 (s3 : Int))) (some b) from grown_trans0 (box_grown _ _ _ _) (box_grown _ _ _ _))
    go_wp2_with fail
    go_region
    go_wp2_with fail
    go_region
    go_wp2_with fail
    generalize (w.setCell ⟨b, 1, none⟩ (.int .i64 ((a : Int) + 1))).setCell ⟨b, 2, none⟩ (.int .u64 (s3 : Int)) = w3 at *
    have k0 := HC3.out.c0; have k1 := HC3.out.c1; have k2 := HC3.out.c2
    rw [show ((a + 1 : Nat) : Int) = (a : Int) + 1 from by omega] at k1
    go_region
    go_wp2_with fail
    go_ret
    obtain ⟨x, rfl⟩ := Int.eq_ofNat_of_zero_le y1
    exact ⟨x, rfl, by omega, ⟨a + 1, s3, by omega, HC3.out.call (show Below w3.heap.size w3 w3.drew.drew.drew from belo)⟩, grown_trans0 G3.out (grown_trans0 (drew_grown _ _) (grown_trans0 (drew_grown _ _) (drew_grown _ _)))⟩
  · have i1 : ¬ (a : Int) < (zs.length : Int) := by omega
    have i2 : ¬ (a : Int) + 1 ≤ (zs.length : Int) := by omega
    obtain ⟨s1, e1, l1⟩ := wrap_u64 ((s : Int) * 6364136223846793005)
    obtain ⟨s3, e3, l3⟩ := wrap_u64 ((s1 : Int) + 1442695040888963407)
    have e4 : IntKind.u64.wrap (s1 : Int) = (s1 : Int) := u64_in l1
    have HC3 := Lib.hid ((HC.out.set1 (z := (a : Int) + 1) (a2 := a + 1) (by omega)).set2 l3)
    have G3 := Lib.hid (show w.grownBy ((w.setCell ⟨b, 1, none⟩ (.int .i64 ((a : Int) + 1))).setCell ⟨b, 2, none⟩ (.int .u64 (s3 : Int))) (some b) from grown_trans0 (box_grown _ _ _ _) (box_grown _ _ _ _))
    go_wp2_with fail
    go_region
    go_wp2_with fail
    generalize (w.setCell ⟨b, 1, none⟩ (.int .i64 ((a : Int) + 1))).setCell ⟨b, 2, none⟩ (.int .u64 (s3 : Int)) = w3 at *
    have k0 := HC3.out.c0; have k1 := HC3.out.c1; have k2 := HC3.out.c2
    rw [show ((a + 1 : Nat) : Int) = (a : Int) + 1 from by omega] at k1
    go_region
    go_wp2_with fail
    go_ret
    obtain ⟨x, hx, hx2⟩ := and_u64_255 ((s3 : Int) / 1099511627776)
    exact ⟨x, by rw [← hx]; rfl, hx2, ⟨a + 1, s3, by omega, HC3.out.call (show Below w3.heap.size w3 w3.drew.drew from belo)⟩, grown_trans0 G3.out (grown_trans0 (drew_grown _ _) (drew_grown _ _))⟩
set_option maxHeartbeats 4000000 in
theorem cur_pick_any (b N : Nat) (n : Nat) (zs : List Int) (cv : Value) (w : World) (h : Cur w b zs cv N) (hN : N + 2 ≤ 1000) (hn : n ≤ 65536) (hr : ∀ z ∈ zs, 0 ≤ z ∧ z ≤ 255) :
    Calls Tryz.prog 23 #[.pointer (some ⟨b, 0, none⟩), .int .i64 (n : Int)] w fun e w' => ∃ x : Nat, e = .returned (.int .i64 (x : Int)) ∧ (1 ≤ n → x < n) ∧ x < 65536 ∧ Cur w' b zs cv (N + 2) ∧ w.grownBy w' (some b) := by
  have H := Lib.hid h
  have HR := Lib.hid hr
  clear h hr
  go_enter Tryz.func23, Tryz.ntmps23
  by_cases h1 : n ≤ 1
  · have i1 : (n : Int) ≤ 1 := by omega
    go_wp2_with fail
    go_ret
    exact ⟨0, rfl, fun h => by omega, by omega, H.out.le (by omega), cur_grown_refl _ _⟩
  · have i1 : ¬ (n : Int) ≤ 1 := by omega
    go_wp2_with fail
    refine (cur_next_any b N zs cv _ H.out (by omega) HR.out).mono ?_; rintro e w1 ⟨x, rfl, hx, hc1, hg1⟩
    have HC1 := Lib.hid hc1
    have HG1 := Lib.hid hg1
    clear hc1 hg1
    by_cases h2 : 200 < n
    · have i2 : (200 : Int) < (n : Int) := by omega
      go_wp2_with fail
      refine (cur_next_any b (N + 1) zs cv _ HC1.out (by omega) HR.out).mono ?_; rintro e w2 ⟨y, rfl, hy, hc2, hg2⟩
      have HC2 := Lib.hid hc2
      have HG2 := Lib.hid (grown_trans0 HG1.out hg2)
      clear hc2 hg2
      have e1 : IntKind.i64.wrap ((x : Int) * 256) = (x : Int) * 256 := IntWalk.i64_in _ (by omega)
      have e2 : IntKind.i64.wrap ((x : Int) * 256 + (y : Int)) = (x : Int) * 256 + (y : Int) := IntWalk.i64_in _ (by omega)
      have i3 : (0 : Int) ≤ (x : Int) * 256 + (y : Int) := by omega
      go_wp2_with fail
      go_ret
      exact ⟨(x * 256 + y) % n, by push_cast; rfl, fun _ => Nat.mod_lt _ (by omega), Nat.lt_of_le_of_lt (Nat.mod_le _ _) (by omega), HC2.out, HG2.out⟩
    · have i2 : ¬ (200 : Int) < (n : Int) := by omega
      go_wp2_with fail
      go_ret
      exact ⟨x % n, by push_cast; rfl, fun _ => Nat.mod_lt _ (by omega), Nat.lt_of_le_of_lt (Nat.mod_le _ _) (by omega), HC1.out.le (by omega), HG1.out⟩
theorem rdI_low {w : World} {v : Value} {L : List Int} (h : RdI w v L) (h0 : 1 ≤ L.length) : ∃ b off cap, v = .slice (some ⟨b, off, none⟩) L.length cap ∧ b < w.heap.size ∧ L.length ≤ cap ∧ cap ≤ 9223372036854775807 ∧ ∀ j u, (L.map (Value.int .i64))[j]? = some u → w.cell? ⟨b, off + j, none⟩ = some u := by
  rcases h.2 with ⟨_, h1⟩ | h1
  · omega
  · exact h1
set_option maxHeartbeats 4000000 in
theorem cur_one_any (b N n : Nat) (zs : List Int) (cv : Value) (w : World) (h : Cur w b zs cv N) (hN : N + 2 ≤ 1000) (hn : n ≤ 65536) (hr : ∀ z ∈ zs, 0 ≤ z ∧ z ≤ 255) :
    Calls Tryz.prog 20 #[.pointer (some ⟨b, 0, none⟩), .int .i64 (n : Int)] w fun e w' => ∃ x : Bool, e = .returned (.bool x) ∧ Cur w' b zs cv (N + 2) ∧ w.grownBy w' (some b) := by
  have H := Lib.hid h
  have HR := Lib.hid hr
  clear h hr
  go_enter Tryz.func20, Tryz.ntmps20
  go_wp2_with fail
  refine (cur_pick_any b N n zs cv _ H.out hN hn HR.out).mono ?_; rintro e w1 ⟨x, rfl, _, _, hc1, hg1⟩
  have HC1 := Lib.hid hc1
  have HG1 := Lib.hid hg1
  clear hc1 hg1
  go_wp2_with fail
  go_ret
  exact ⟨_, rfl, HC1.out, HG1.out⟩
theorem num_grown {w w' : World} {v : Value} {L : List Int} {b : Nat} (h : RdI w v L) (hg : w.grownBy w' (some b)) (hn : ∀ g, v.ownBlock = some g → g ≠ b) : RdI w' v L := by
  refine ⟨h.1, ?_⟩
  rcases h.2 with h0 | ⟨g, off, cap, e, hb, h1, h2, hc⟩
  · exact .inl h0
  · refine .inr ⟨g, off, cap, e, Nat.lt_of_lt_of_le hb hg.size, h1, h2, fun j u hj => ?_⟩
    have hne : g ≠ b := hn g (by rw [e]; rfl)
    rw [World.cell?_of_block (w := w) (w' := w') (a := ⟨g, off + j, none⟩) (hg.block g hb (fun e2 => hne (by injection e2)))]
    exact hc j u hj
set_option maxHeartbeats 4000000 in
theorem cur_among_any (b N : Nat) (v : Value) (L : List Int) (zs : List Int) (cv : Value) (w : World) (h : Cur w b zs cv N) (hL : RdI w v L) (hne : 1 ≤ L.length) (hle : L.length ≤ 65536) (hoff : ∀ g, v.ownBlock = some g → g ≠ b) (hN : N + 2 ≤ 1000) (hr : ∀ z ∈ zs, 0 ≤ z ∧ z ≤ 255) :
    Calls Tryz.prog 60 #[.pointer (some ⟨b, 0, none⟩), v] w fun e w' => ∃ x : Int, e = .returned (.int .i64 x) ∧ x ∈ L ∧ Cur w' b zs cv (N + 2) ∧ w.grownBy w' (some b) := by
  have H := Lib.hid h
  have HR := Lib.hid hr
  have HL := Lib.hid hL
  obtain ⟨A, c, rfl, _⟩ := hL.form
  clear h hr hL
  go_enter Tryz.func60, Tryz.ntmps60
  go_wp2_with fail
  refine (cur_pick_any b N L.length zs cv _ H.out hN hle HR.out).mono ?_; rintro e w1 ⟨x, rfl, hx, _, hc1, hg1⟩
  have hxl := hx hne
  have HC1 := Lib.hid hc1
  have HG1 := Lib.hid hg1
  have HM := num_grown HL.out hg1 hoff
  obtain ⟨g, off, cap, e, hgw, _, _, hcell⟩ := rdI_low HM hne
  injection e with e1 e2 e3
  subst e1 e3
  have cx := hcell x (.int .i64 L[x]) (by simp [hxl])
  have i1 : (x : Int) < (L.length : Int) := by omega
  clear hc1 hg1 hx HM hcell
  go_wp2_with fail
  go_ret
  exact ⟨L[x], rfl, List.getElem_mem hxl, HC1.out, HG1.out⟩
end Go.Proofs.YtnckabohlakbgaaGreat
namespace Go.Proofs.YtnckabohlakbgaaGreat
set_option linter.unusedSimpArgs false
set_option linter.unusedVariables false
set_option linter.unnecessarySimpa false
set_option maxRecDepth 200000
open Go.ChangeShapes Go.WideShapes Go.ChangeAt Go.RowKit

theorem Cur.lt {w : World} {b N : Nat} {zs : List Int} {cv : Value} (h : Cur w b zs cv N) : b < w.heap.size := by
  obtain ⟨a, s, _, hc⟩ := h
  exact World.block_lt_of_cell? _ _ hc.c1
theorem grown_below0 {w0 w w' : World} {r : Option Nat} (h : w0.grownBy w r) (hb : Below w.heap.size w w') : w0.grownBy w' r :=
  ⟨hb.os.trans h.os, hb.tape.trans h.tape, hb.output.trans h.output, Nat.le_trans h.size hb.size, fun k hk hn => (hb.block k (Nat.lt_of_lt_of_le hk h.size)).trans (h.block k hk hn)⟩
set_option maxHeartbeats 8000000 in
theorem cur_new {w : World} {v : Value} {zs : List Int} (h : RdB w v zs) : Cur (w.alloc (.cells #[v, .int .i64 0, .int .u64 0] 57)) w.heap.size zs v 0 := by
  have hb : Below w.heap.size w (w.alloc (.cells #[v, .int .i64 0, .int .u64 0] 57)) := belo
  have hc := news_cells w [v, .int .i64 0, .int .u64 0] 57
  refine ⟨0, 0, Nat.le_refl _, Rd.below h hb rfl, ?_, ?_, ?_, new_frz _ _ _ _, new_frz _ _ _ _, fun h9 g e e2 => ?_, by decide⟩
  · have := hc 0 _ rfl
    rwa [Addr.add_lit] at this
  · have := hc 1 _ rfl
    rwa [Addr.add_lit] at this
  · have := hc 2 _ rfl
    rwa [Addr.add_lit] at this
  · rcases h.2 with ⟨⟨a0, c0, rfl⟩, h0⟩ | ⟨b, off, cap, rfl, hb, _, _, _⟩
    · exact h9 h0
    · injection e with e
      have e3 : b = g := e
      omega
theorem lit_num (w : World) (L : List Int) (h : L.length ≤ 1000) : RdI (w.alloc (.cells (L.map (Value.int .i64)).toArray 3)) (.slice (some ⟨w.heap.size, 0, none⟩) L.length L.length) L := by
  refine ⟨by simp, .inr ⟨w.heap.size, 0, L.length, rfl, by simp, Nat.le_refl _, by omega, fun j u hj => ?_⟩⟩
  have := news_cells w (L.map (Value.int .i64)) 3 j u hj
  rwa [Addr.add_lit] at this
theorem below_box {w0 w w' : World} {B b : Nat} (h : Below B w0 w) (hg : w.grownBy w' (some b)) (h1 : B ≤ b) (h2 : B ≤ w.heap.size) : Below B w0 w' :=
  Below.grown h hg h2 (fun k hk => by injection hk with hk; omega)
/-- The state of the draw: the cursor in the box at w's end. -/
structure Dr (w0 w : World) (zs : List Int) (cv : Value) (N : Nat) : Prop where
  cur : Cur w w0.heap.size zs cv N
  bel : Below w0.heap.size w0 w
  lt : w0.heap.size < w.heap.size
theorem Dr.step {w0 w w' : World} {zs : List Int} {cv : Value} {N M : Nat} (h : Dr w0 w zs cv N) (hc : Cur w' w0.heap.size zs cv M) (hg : w.grownBy w' (some w0.heap.size)) : Dr w0 w' zs cv M :=
  ⟨hc, below_box h.bel hg (Nat.le_refl _) (Nat.le_of_lt h.lt), Nat.lt_of_lt_of_le h.lt hg.size⟩
theorem Dr.call {w0 w w' : World} {zs : List Int} {cv : Value} {N : Nat} (h : Dr w0 w zs cv N) (hb : Below w.heap.size w w') : Dr w0 w' zs cv N :=
  ⟨h.cur.call hb, Below.trans h.bel (hb.mono (Nat.le_of_lt h.lt)), Nat.lt_of_lt_of_le h.lt hb.size⟩
end Go.Proofs.YtnckabohlakbgaaGreat
