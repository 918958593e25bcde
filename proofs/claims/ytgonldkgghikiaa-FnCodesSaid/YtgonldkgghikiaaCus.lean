/- Cu0, Cu1, Cu2, Cu3 in one text. -/
import Derived.Test.YtgonldkgghikiaaArg1
import Derived.Test.YtgonldkgghikiaaCut1
import Derived.Test.YtgonldkgghikiaaBits
import Derived.Test.YtgonldkgghikiaaTwo2
import Derived.Test.YtgonldkgghikiaaDat
import Derived.Test.YtgonldkgghikiaaRms
import Derived.Test.YtgonldkgghikiaaBrk
import Derived.BigRegion
namespace Go.Proofs.Ytgonldkgghikiaa
set_option linter.unusedSimpArgs false
set_option linter.unusedVariables false
set_option linter.unnecessarySimpa false
set_option maxRecDepth 200000
open Go.ChangeShapes Go.WideShapes Go.ChangeAt Go.RowKit

def RdB (w : World) (v : Value) (zs : List Int) : Prop := Rd w v zs.length 1 (zs.map (Value.int .u8))
def IsBytes (w : World) (v : Value) : Prop := ∃ zs : List Int, RdB w v zs ∧ ∀ z ∈ zs, 0 ≤ z ∧ z ≤ 255
theorem u8_range {n : Int} (h : (Lit.int .u8 n).wf = true) : 0 ≤ n ∧ n ≤ 255 := by
  have h := h
  simp [Lit.wf, IntKind.min, IntKind.max, IntKind.signed, IntKind.bits] at h
  omega
section
variable {H : Type} {enc : TypeId × Value → H} {W : World} {base : Nat} {spare : Nat → Bool} {held : Bool} {r : Reach} {b0 : Nat}
theorem cellBytes_of {n : Nat} {t e : TypeId} {v : Value} {y : DataW H × List MemPlace} (ht : Try.prog.underlying t = some (.slice e)) (he : Try.prog.underlying e = some (.int .u8)) (hc : Try.prog.cellsOf e = 1) (h : DataW.trod enc Try.prog W base spare held n t [v] = some y) : IsBytes W v := by
  rcases open_ints ht he hc h with ⟨hv, _⟩ | ⟨a, len, cap, zs, hv, _, hlc, hcm, hzl, _, hcell, hwf⟩
  · simp at hv; subst hv
    exact ⟨[], ⟨rfl, .inl ⟨⟨_, _, rfl⟩, rfl⟩⟩, fun z hz => by cases hz⟩
  · simp at hv; subst hv
    have hle : len ≤ zs.length := by rw [hzl]; split <;> omega
    have hrange : ∀ z ∈ zs.take len, 0 ≤ z ∧ z ≤ 255 := fun z hz => u8_range (hwf z (List.mem_of_mem_take hz))
    have hlen : (zs.take len).length = len := by simp; omega
    rcases Nat.eq_zero_or_pos len with h0 | h0
    · subst h0
      exact ⟨[], ⟨rfl, .inl ⟨⟨_, _, rfl⟩, rfl⟩⟩, fun z hz => by cases hz⟩
    · have c0 := hcell 0 (by omega)
      have hs : a.spot = none := by simpa [Addr.add] using addr_none c0
      obtain ⟨b, off, sp⟩ := a
      simp at hs; subst hs
      refine ⟨zs.take len, ⟨by simp, .inr ⟨b, off, cap, by rw [hlen], World.block_lt_of_cell? _ _ c0, by omega, by simpa [maxLen] using hcm, fun j u hj => ?_⟩⟩, hrange⟩
      have hj' := (List.getElem?_eq_some_iff.1 hj).1
      simp at hj'
      have := hcell j (by omega)
      rw [Addr.add_lit] at this
      rw [this, ← hj]
      have h2 : j < zs.length := by omega
      have h3 : j < len := by omega
      simp [List.getElem?_take, h3, List.getD, List.getElem?_eq_getElem h2]
theorem isBytes_of {v : Value} {d : DataW H} {p : List MemPlace} (hv : Value.okWide Try.prog W r b0 34 v) (h : DataW.Trod enc Try.prog W base spare held 34 v d p) : IsBytes W v := by
  obtain ⟨fuel, hf⟩ := h
  obtain ⟨cs, hcs, hl⟩ : ∃ c, v.cells.toList = [c] ∧ v = c := by
    obtain ⟨a, n, c, rfl⟩ := okWide_slice Try.underlying34 hv
    exact ⟨_, rfl, rfl⟩
  rw [hcs] at hf; subst hl
  exact cellBytes_of Try.underlying34 Try.underlying5 (by kernel_rfl) hf
end
theorem byte_at {w : World} {v : Value} {zs : List Int} (h : RdB w v zs) (hr : ∀ z ∈ zs, 0 ≤ z ∧ z ≤ 255) : ∃ A c, v = .slice A zs.length c ∧ Hid (∀ k, k < zs.length → ∃ b off y, A = some ⟨b, off, none⟩ ∧ b < w.heap.size ∧ w.cell? ⟨b, off + k, none⟩ = some (.int .u8 y) ∧ 0 ≤ y ∧ y ≤ 255) := by
  rcases h.2 with ⟨⟨a0, c0, rfl⟩, h0⟩ | ⟨b, off, cap, rfl, hb, _, _, hc⟩
  · exact ⟨a0, c0, by rw [h0], show ∀ _, _ from fun k hk => by omega⟩
  · refine ⟨_, cap, rfl, show ∀ _, _ from fun k hk => ⟨b, off, zs[k], rfl, hb, ?_, hr _ (List.getElem_mem hk)⟩⟩
    exact hc k (.int .u8 zs[k]) (by simp [hk])
/-- The cursor's box. -/
structure CurC (w : World) (b : Nat) (zs : List Int) (cv : Value) (a s : Nat) : Prop where
  rd : RdB w cv zs
  c0 : w.cell? ⟨b, 0, none⟩ = some cv
  c1 : w.cell? ⟨b, 1, none⟩ = some (.int .i64 (a : Int))
  c2 : w.cell? ⟨b, 2, none⟩ = some (.int .u64 (s : Int))
  f1 : w.frozen? ⟨b, 1, none⟩ = false
  f2 : w.frozen? ⟨b, 2, none⟩ = false
  off : zs.length ≠ 0 → ∀ g, cv.ownBlock = some g → g ≠ b
  sm : s < 18446744073709551616
theorem box_grown (w : World) (b o : Nat) (u : Value) : w.grownBy (w.setCell ⟨b, o, none⟩ u) (some b) := by
  have q : Below 0 w (w.setCell ⟨b, o, none⟩ u) := Below.setCell (p := ⟨b, o, none⟩) (Below.refl 0 w) (Nat.zero_le _) u
  exact ⟨q.os, q.tape, q.output, q.size, fun k hk hne => Below.heap_setCell _ _ _ k (fun e => hne (by rw [e]))⟩
theorem rdB_grown {w w' : World} {v : Value} {zs : List Int} {b : Nat} (h : RdB w v zs) (hg : w.grownBy w' (some b)) (hn : zs.length ≠ 0 → ∀ g, v.ownBlock = some g → g ≠ b) : RdB w' v zs := by
  refine ⟨h.1, ?_⟩
  rcases h.2 with h0 | ⟨g, off, cap, e, hb, h1, h2, hc⟩
  · exact .inl h0
  · refine .inr ⟨g, off, cap, e, Nat.lt_of_lt_of_le hb hg.size, h1, h2, fun j u hj => ?_⟩
    have hne : g ≠ b := hn (fun h9 => by have := (List.getElem?_eq_some_iff.1 hj).1; simp at this; omega) g (by rw [e]; rfl)
    rw [World.cell?_of_block (w := w) (w' := w') (a := ⟨g, off + j, none⟩) (hg.block g hb (fun e2 => hne (by injection e2)))]
    exact hc j u hj
section
variable {w w' : World} {b a s a2 s2 : Nat} {zs : List Int} {cv : Value}
theorem CurC.call (h : CurC w b zs cv a s) (hb : Below w.heap.size w w') : CurC w' b zs cv a s := by
  have hl := World.block_lt_of_cell? _ _ h.c0
  exact ⟨Rd.below h.rd hb rfl, (hb.cell (World.block_lt_of_cell? _ _ h.c0)).trans h.c0, (hb.cell (World.block_lt_of_cell? _ _ h.c1)).trans h.c1, (hb.cell (World.block_lt_of_cell? _ _ h.c2)).trans h.c2, below_frz hb rfl hl h.f1, below_frz hb rfl hl h.f2, h.off, h.sm⟩
theorem CurC.set1 {z : Int} (h : CurC w b zs cv a s) (hz : z = (a2 : Int)) : CurC (w.setCell ⟨b, 1, none⟩ (.int .i64 z)) b zs cv a2 s := by
  subst hz
  exact ⟨rdB_grown h.rd (box_grown _ _ _ _) h.off, cell_set_other h.c0, World.cell?_setCell_same _ _ _ h.c1, cell_set_other h.c2, by rw [World.frozen?_setCell]; exact h.f1, by rw [World.frozen?_setCell]; exact h.f2, h.off, h.sm⟩
theorem CurC.set2 (h : CurC w b zs cv a s) (hs : s2 < 18446744073709551616) : CurC (w.setCell ⟨b, 2, none⟩ (.int .u64 (s2 : Int))) b zs cv a s2 :=
  ⟨rdB_grown h.rd (box_grown _ _ _ _) h.off, cell_set_other h.c0, cell_set_other h.c1, World.cell?_setCell_same _ _ _ h.c2, by rw [World.frozen?_setCell]; exact h.f1, by rw [World.frozen?_setCell]; exact h.f2, h.off, hs⟩
end
/-- The cursor after at most N steps. -/
def Cur (w : World) (b : Nat) (zs : List Int) (cv : Value) (N : Nat) : Prop := ∃ a s : Nat, a ≤ N ∧ CurC w b zs cv a s
theorem Cur.call {w w' : World} {b N : Nat} {zs : List Int} {cv : Value} (h : Cur w b zs cv N) (hb : Below w.heap.size w w') : Cur w' b zs cv N := by
  obtain ⟨a, s, ha, hc⟩ := h
  exact ⟨a, s, ha, hc.call hb⟩
theorem Cur.le {w : World} {b N M : Nat} {zs : List Int} {cv : Value} (h : Cur w b zs cv N) (hl : N ≤ M) : Cur w b zs cv M := by
  obtain ⟨a, s, ha, hc⟩ := h
  exact ⟨a, s, Nat.le_trans ha hl, hc⟩
theorem u64_in {n : Nat} (h : n < 18446744073709551616) : IntKind.u64.wrap (n : Int) = (n : Int) := by
  have e : IntKind.u64.wrap (n : Int) = (n : Int) % 18446744073709551616 := by
    simp [IntKind.wrap, IntKind.signed, IntKind.bits]
  rw [e]; omega
theorem and_u64_255 (z : Int) : ∃ x : Nat, wrap64 (bits .and .u64 z 255) = (x : Int) ∧ x ≤ 255 := by
  have h : bits .and .u64 z 255 = IntKind.u64.wrap (((BitVec.ofInt 64 z &&& BitVec.ofInt 64 255).toNat : Nat) : Int) := rfl
  rw [BitVec.toNat_and, show (BitVec.ofInt 64 255).toNat = 255 from by decide] at h
  have h2 : (BitVec.ofInt 64 z).toNat &&& 255 ≤ 255 := Nat.and_le_right
  refine ⟨(BitVec.ofInt 64 z).toNat &&& 255, ?_, h2⟩
  rw [h, u64_in (by omega)]
  exact IntWalk.wrap64_in _ ⟨by omega, by omega⟩
theorem cur_grown_refl (w : World) (r : Option Nat) : w.grownBy w r := ⟨rfl, rfl, rfl, Nat.le_refl _, fun _ _ _ => rfl⟩
theorem drew_grown (w : World) (r : Option Nat) : w.grownBy w.drew r := ⟨rfl, rfl, rfl, Nat.le_refl _, fun _ _ _ => rfl⟩
theorem wrap_u64 (x : Int) : ∃ n : Nat, IntKind.u64.wrap x = (n : Int) ∧ n < 18446744073709551616 := by
  have h1 : 0 ≤ x % 18446744073709551616 := Int.emod_nonneg _ (by decide)
  have h2 : x % 18446744073709551616 < 18446744073709551616 := Int.emod_lt_of_pos _ (by decide)
  refine ⟨(x % 18446744073709551616).toNat, ?_, by omega⟩
  have e : IntKind.u64.wrap x = x % 18446744073709551616 := by
    simp [IntKind.wrap, IntKind.signed, IntKind.bits]
  rw [e]; omega
end Go.Proofs.Ytgonldkgghikiaa
namespace Go.Proofs.Ytgonldkgghikiaa
set_option linter.unusedSimpArgs false
set_option linter.unusedVariables false
set_option linter.unnecessarySimpa false
set_option maxRecDepth 200000
open Go.ChangeShapes Go.WideShapes Go.ChangeAt Go.RowKit

set_option maxHeartbeats 4000000 in
theorem cur_next_any (b N : Nat) (zs : List Int) (cv : Value) (w : World) (h : Cur w b zs cv N) (hN : N ≤ 1000) (hr : ∀ z ∈ zs, 0 ≤ z ∧ z ≤ 255) :
    Calls Try.prog 73 #[.pointer (some ⟨b, 0, none⟩)] w fun e w' => ∃ x : Nat, e = .returned (.int .i64 (x : Int)) ∧ x ≤ 255 ∧ Cur w' b zs cv (N + 1) ∧ w.grownBy w' (some b) := by
  obtain ⟨a, s, ha, hc⟩ := h
  obtain ⟨A, c, rfl, hb⟩ := byte_at hc.rd hr
  have HC := Lib.hid hc
  have t0 := hc.c0; have t1 := hc.c1; have t2 := hc.c2; have g1 := hc.f1; have g2 := hc.f2
  clear hc
  go_enter Try.func73, Try.ntmps73
  by_cases hlt : a < zs.length
  · have i1 : (a : Int) < (zs.length : Int) := by omega
    have i2 : (a : Int) + 1 ≤ (zs.length : Int) := by omega
    obtain ⟨b0, off, y, rfl, hb0, cy, y1, y2⟩ := hb.out a hlt
    have hwy : IntKind.i64.wrap y = y := IntWalk.i64_in _ (by omega)
    clear hb
    obtain ⟨s1, e1, l1⟩ := wrap_u64 ((s : Int) * 6364136223846793005)
    obtain ⟨s2, e2, l2⟩ := wrap_u64 ((s1 : Int) + y)
    obtain ⟨s3, e3, l3⟩ := wrap_u64 ((s2 : Int) + 1442695040888963407)
    have HC3 := Lib.hid ((HC.out.set1 (z := (a : Int) + 1) (a2 := a + 1) (by omega)).set2 l3)
    have G3 := Lib.hid (show w.grownBy ((w.setCell ⟨b, 1, none⟩ (.int .i64 ((a : Int) + 1))).setCell ⟨b, 2, none⟩ (.int .u64 (s3 : Int))) (some b) from grown_trans0 (box_grown _ _ _ _) (box_grown _ _ _ _))
    go_wp2_with fail
    go_region
    go_wp2_with fail
    go_region
    go_wp2_with fail
    generalize (w.setCell ⟨b, 1, none⟩ (.int .i64 ((a : Int) + 1))).setCell ⟨b, 2, none⟩ (.int .u64 (s3 : Int)) = w3 at *
    have k0 := HC3.out.c0; have k1 := HC3.out.c1; have k2 := HC3.out.c2
    rw [show ((a + 1 : Nat) : Int) = (a : Int) + 1 from by omega] at k1
    go_region
    go_wp2_with fail
    go_ret
    obtain ⟨x, rfl⟩ := Int.eq_ofNat_of_zero_le y1
    exact ⟨x, rfl, by omega, ⟨a + 1, s3, by omega, HC3.out.call (show Below w3.heap.size w3 w3.drew.drew.drew from (by repeat (first | exact Below.refl _ _ | assumption | refine Below.drew ?_ | refine below_drewN ?_ _ | refine Below.alloc ?_ (by first | omega | (simp <;> omega)) _ | refine Below.setCell ?_ (by first | omega | (simp <;> omega)) _ | refine Below.trans ?_ (Below.mono (by assumption) (by first | omega | (simp <;> omega))))))⟩, grown_trans0 G3.out (grown_trans0 (drew_grown _ _) (grown_trans0 (drew_grown _ _) (drew_grown _ _)))⟩
  · have i1 : ¬ (a : Int) < (zs.length : Int) := by omega
    have i2 : ¬ (a : Int) + 1 ≤ (zs.length : Int) := by omega
    obtain ⟨s1, e1, l1⟩ := wrap_u64 ((s : Int) * 6364136223846793005)
    obtain ⟨s3, e3, l3⟩ := wrap_u64 ((s1 : Int) + 1442695040888963407)
    have e4 : IntKind.u64.wrap (s1 : Int) = (s1 : Int) := u64_in l1
    have HC3 := Lib.hid ((HC.out.set1 (z := (a : Int) + 1) (a2 := a + 1) (by omega)).set2 l3)
    have G3 := Lib.hid (show w.grownBy ((w.setCell ⟨b, 1, none⟩ (.int .i64 ((a : Int) + 1))).setCell ⟨b, 2, none⟩ (.int .u64 (s3 : Int))) (some b) from grown_trans0 (box_grown _ _ _ _) (box_grown _ _ _ _))
    go_wp2_with fail
    go_region
    go_wp2_with fail
    generalize (w.setCell ⟨b, 1, none⟩ (.int .i64 ((a : Int) + 1))).setCell ⟨b, 2, none⟩ (.int .u64 (s3 : Int)) = w3 at *
    have k0 := HC3.out.c0; have k1 := HC3.out.c1; have k2 := HC3.out.c2
    rw [show ((a + 1 : Nat) : Int) = (a : Int) + 1 from by omega] at k1
    go_region
    go_wp2_with fail
    go_ret
    obtain ⟨x, hx, hx2⟩ := and_u64_255 ((s3 : Int) / 1099511627776)
    exact ⟨x, by rw [← hx]; rfl, hx2, ⟨a + 1, s3, by omega, HC3.out.call (show Below w3.heap.size w3 w3.drew.drew from (by repeat (first | exact Below.refl _ _ | assumption | refine Below.drew ?_ | refine below_drewN ?_ _ | refine Below.alloc ?_ (by first | omega | (simp <;> omega)) _ | refine Below.setCell ?_ (by first | omega | (simp <;> omega)) _ | refine Below.trans ?_ (Below.mono (by assumption) (by first | omega | (simp <;> omega))))))⟩, grown_trans0 G3.out (grown_trans0 (drew_grown _ _) (drew_grown _ _))⟩
set_option maxHeartbeats 4000000 in
theorem cur_pick_any (b N : Nat) (n : Nat) (zs : List Int) (cv : Value) (w : World) (h : Cur w b zs cv N) (hN : N + 2 ≤ 1000) (hn : n ≤ 65536) (hr : ∀ z ∈ zs, 0 ≤ z ∧ z ≤ 255) :
    Calls Try.prog 65 #[.pointer (some ⟨b, 0, none⟩), .int .i64 (n : Int)] w fun e w' => ∃ x : Nat, e = .returned (.int .i64 (x : Int)) ∧ (1 ≤ n → x < n) ∧ x < 65536 ∧ Cur w' b zs cv (N + 2) ∧ w.grownBy w' (some b) := by
  have H := Lib.hid h
  have HR := Lib.hid hr
  clear h hr
  go_enter Try.func65, Try.ntmps65
  by_cases h1 : n ≤ 1
  · have i1 : (n : Int) ≤ 1 := by omega
    go_wp2_with fail
    go_ret
    exact ⟨0, rfl, fun h => by omega, by omega, H.out.le (by omega), cur_grown_refl _ _⟩
  · have i1 : ¬ (n : Int) ≤ 1 := by omega
    go_wp2_with fail
    refine (cur_next_any b N zs cv _ H.out (by omega) HR.out).mono ?_; rintro e w1 ⟨x, rfl, hx, hc1, hg1⟩
    have HC1 := Lib.hid hc1
    have HG1 := Lib.hid hg1
    clear hc1 hg1
    by_cases h2 : 200 < n
    · have i2 : (200 : Int) < (n : Int) := by omega
      go_wp2_with fail
      refine (cur_next_any b (N + 1) zs cv _ HC1.out (by omega) HR.out).mono ?_; rintro e w2 ⟨y, rfl, hy, hc2, hg2⟩
      have HC2 := Lib.hid hc2
      have HG2 := Lib.hid (grown_trans0 HG1.out hg2)
      clear hc2 hg2
      have e1 : IntKind.i64.wrap ((x : Int) * 256) = (x : Int) * 256 := IntWalk.i64_in _ (by omega)
      have e2 : IntKind.i64.wrap ((x : Int) * 256 + (y : Int)) = (x : Int) * 256 + (y : Int) := IntWalk.i64_in _ (by omega)
      have i3 : (0 : Int) ≤ (x : Int) * 256 + (y : Int) := by omega
      go_wp2_with fail
      go_ret
      exact ⟨(x * 256 + y) % n, by push_cast; rfl, fun _ => Nat.mod_lt _ (by omega), Nat.lt_of_le_of_lt (Nat.mod_le _ _) (by omega), HC2.out, HG2.out⟩
    · have i2 : ¬ (200 : Int) < (n : Int) := by omega
      go_wp2_with fail
      go_ret
      exact ⟨x % n, by push_cast; rfl, fun _ => Nat.mod_lt _ (by omega), Nat.lt_of_le_of_lt (Nat.mod_le _ _) (by omega), HC1.out.le (by omega), HG1.out⟩
theorem rdI_low {w : World} {v : Value} {L : List Int} (h : RdI w v L) (h0 : 1 ≤ L.length) : ∃ b off cap, v = .slice (some ⟨b, off, none⟩) L.length cap ∧ b < w.heap.size ∧ L.length ≤ cap ∧ cap ≤ 9223372036854775807 ∧ ∀ j u, (L.map (Value.int .i64))[j]? = some u → w.cell? ⟨b, off + j, none⟩ = some u := by
  rcases h.2 with ⟨_, h1⟩ | h1
  · omega
  · exact h1
set_option maxHeartbeats 4000000 in
theorem cur_one_any (b N n : Nat) (zs : List Int) (cv : Value) (w : World) (h : Cur w b zs cv N) (hN : N + 2 ≤ 1000) (hn : n ≤ 65536) (hr : ∀ z ∈ zs, 0 ≤ z ∧ z ≤ 255) :
    Calls Try.prog 53 #[.pointer (some ⟨b, 0, none⟩), .int .i64 (n : Int)] w fun e w' => ∃ x : Bool, e = .returned (.bool x) ∧ Cur w' b zs cv (N + 2) ∧ w.grownBy w' (some b) := by
  have H := Lib.hid h
  have HR := Lib.hid hr
  clear h hr
  go_enter Try.func53, Try.ntmps53
  go_wp2_with fail
  refine (cur_pick_any b N n zs cv _ H.out hN hn HR.out).mono ?_; rintro e w1 ⟨x, rfl, _, _, hc1, hg1⟩
  have HC1 := Lib.hid hc1
  have HG1 := Lib.hid hg1
  clear hc1 hg1
  go_wp2_with fail
  go_ret
  exact ⟨_, rfl, HC1.out, HG1.out⟩
theorem num_grown {w w' : World} {v : Value} {L : List Int} {b : Nat} (h : RdI w v L) (hg : w.grownBy w' (some b)) (hn : ∀ g, v.ownBlock = some g → g ≠ b) : RdI w' v L := by
  refine ⟨h.1, ?_⟩
  rcases h.2 with h0 | ⟨g, off, cap, e, hb, h1, h2, hc⟩
  · exact .inl h0
  · refine .inr ⟨g, off, cap, e, Nat.lt_of_lt_of_le hb hg.size, h1, h2, fun j u hj => ?_⟩
    have hne : g ≠ b := hn g (by rw [e]; rfl)
    rw [World.cell?_of_block (w := w) (w' := w') (a := ⟨g, off + j, none⟩) (hg.block g hb (fun e2 => hne (by injection e2)))]
    exact hc j u hj
set_option maxHeartbeats 4000000 in
theorem cur_among_any (b N : Nat) (v : Value) (L : List Int) (zs : List Int) (cv : Value) (w : World) (h : Cur w b zs cv N) (hL : RdI w v L) (hne : 1 ≤ L.length) (hle : L.length ≤ 65536) (hoff : ∀ g, v.ownBlock = some g → g ≠ b) (hN : N + 2 ≤ 1000) (hr : ∀ z ∈ zs, 0 ≤ z ∧ z ≤ 255) :
    Calls Try.prog 51 #[.pointer (some ⟨b, 0, none⟩), v] w fun e w' => ∃ x : Int, e = .returned (.int .i64 x) ∧ x ∈ L ∧ Cur w' b zs cv (N + 2) ∧ w.grownBy w' (some b) := by
  have H := Lib.hid h
  have HR := Lib.hid hr
  have HL := Lib.hid hL
  obtain ⟨A, c, rfl, _⟩ := hL.form
  clear h hr hL
  go_enter Try.func51, Try.ntmps51
  go_wp2_with fail
  refine (cur_pick_any b N L.length zs cv _ H.out hN hle HR.out).mono ?_; rintro e w1 ⟨x, rfl, hx, _, hc1, hg1⟩
  have hxl := hx hne
  have HC1 := Lib.hid hc1
  have HG1 := Lib.hid hg1
  have HM := num_grown HL.out hg1 hoff
  obtain ⟨g, off, cap, e, hgw, _, _, hcell⟩ := rdI_low HM hne
  injection e with e1 e2 e3
  subst e1 e3
  have cx := hcell x (.int .i64 L[x]) (by simp [hxl])
  have i1 : (x : Int) < (L.length : Int) := by omega
  clear hc1 hg1 hx HM hcell
  go_wp2_with fail
  go_ret
  exact ⟨L[x], rfl, List.getElem_mem hxl, HC1.out, HG1.out⟩
end Go.Proofs.Ytgonldkgghikiaa
namespace Go.Proofs.Ytgonldkgghikiaa
set_option linter.unusedSimpArgs false
set_option linter.unusedVariables false
set_option linter.unnecessarySimpa false
set_option maxRecDepth 200000
open Go.ChangeShapes Go.WideShapes Go.ChangeAt Go.RowKit

theorem Cur.lt {w : World} {b N : Nat} {zs : List Int} {cv : Value} (h : Cur w b zs cv N) : b < w.heap.size := by
  obtain ⟨a, s, _, hc⟩ := h
  exact World.block_lt_of_cell? _ _ hc.c1
theorem grown_below0 {w0 w w' : World} {r : Option Nat} (h : w0.grownBy w r) (hb : Below w.heap.size w w') : w0.grownBy w' r :=
  ⟨hb.os.trans h.os, hb.tape.trans h.tape, hb.output.trans h.output, Nat.le_trans h.size hb.size, fun k hk hn => (hb.block k (Nat.lt_of_lt_of_le hk h.size)).trans (h.block k hk hn)⟩
theorem own_above {w : World} {B b : Nat} {v : Value} {zs : List Int} (h : OwnI w B v zs) (hb : b < B) : ∀ g, v.ownBlock = some g → g ≠ b := fun g e e2 => by
  have := (World.ownsRow.lt (show w.ownsRow B _ _ v _ _ from h) g e).1
  omega
theorem code_cell {w w' : World} {b n m x c : Nat} {a : Option Addr} (h : RdI w (.slice a n c) (ints (codesS m))) (hn : n = (codesS m).length) (hx : x < n) (hg : w.grownBy w' (some b)) (ho : ∀ g, (Value.slice a n c).ownBlock = some g → g ≠ b) :
    ∃ g off, a = some ⟨g, off, none⟩ ∧ ∃ y : Int, w'.cell? ⟨g, off + x, none⟩ = some (.int .i64 y) := by
  obtain ⟨g, off, cap, e, hgw, _, _, hc⟩ := rdI_low (num_grown h hg ho) (by rw [ints_len]; omega)
  injection e with e1 e2 e3
  refine ⟨g, off, e1, _, hc x (.int .i64 ((ints (codesS m))[x]'(by rw [ints_len]; omega))) (by simp [ints_len, ← hn, hx])⟩
theorem code_keep {w w' : World} {b g off x n c : Nat} {u : Value} (h : w.cell? ⟨g, off + x, none⟩ = some u) (hg : w.grownBy w' (some b)) (ho : ∀ g2, (Value.slice (some ⟨g, off, none⟩) n c).ownBlock = some g2 → g2 ≠ b) : w'.cell? ⟨g, off + x, none⟩ = some u := by
  have hne : g ≠ b := ho g rfl
  rw [World.cell?_of_block (w := w) (w' := w') (a := ⟨g, off + x, none⟩) (hg.block g (World.block_lt_of_cell? _ _ h) (fun e2 => hne (by injection e2)))]
  exact h
set_option maxHeartbeats 8000000 in
theorem cur_oddWord_1 (b N : Nat) (zs : List Int) (cv : Value) (w : World) (h : Cur w b zs cv N) (hN : N + 10 ≤ 1000) (hr : ∀ z ∈ zs, 0 ≤ z ∧ z ≤ 255) :
    Calls Try.prog 52 #[.pointer (some ⟨b, 0, none⟩), .int .i64 1] w fun e w' => ∃ x : Int, e = .returned (.int .i64 x) ∧ Cur w' b zs cv (N + 10) ∧ w.grownBy w' (some b) := by
  have H := Lib.hid h
  have HR := Lib.hid hr
  clear h hr
  obtain ⟨nL, hnL⟩ : ∃ k, k = (codesS 1).length := ⟨_, rfl⟩
  have hL1 : 1 ≤ nL := by rw [hnL]; exact codes_pos (by decide) (by decide)
  have hL2 : nL ≤ 64 := by rw [hnL]; exact (code_ok (n := 1) (by decide) (by decide)).few
  have HLn := Lib.hid hnL
  clear hnL
  go_enter Try.func52, Try.ntmps52
  go_wp2_with fail
  refine (cur_pick_any b N 65536 zs cv _ H.out (by omega) (by omega) HR.out).mono ?_; rintro e w1 ⟨x1, rfl, _, hx1, hc1, hg1⟩
  have C1 := Lib.hid hc1
  have G1 := Lib.hid hg1
  clear hc1 hg1
  go_wp2_with fail
  refine (cur_pick_any b (N + 2) 32768 zs cv _ C1.out (by omega) (by omega) HR.out).mono ?_; rintro e w2 ⟨x2, rfl, _, hx2, hc2, hg2⟩
  have C2 := Lib.hid hc2
  have G2 := Lib.hid (grown_trans0 G1.out hg2)
  clear hc2 hg2
  go_wp2_with fail
  refine (cur_pick_any b (N + 4) 3 zs cv _ C2.out (by omega) (by omega) HR.out).mono ?_; rintro e w3 ⟨x3, rfl, hx3, _, hc3, hg3⟩
  have C3 := Lib.hid hc3
  have G3 := Lib.hid (grown_trans0 G2.out hg3)
  clear hc3 hg3
  have h3 : x3 = 0 ∨ x3 = 1 ∨ x3 = 2 := by have := hx3 (by omega); omega
  clear hx3
  rcases h3 with rfl | rfl | rfl
  · go_wp2_with fail
    refine (spec_l15Codes_any 1 _ (by decide) (by decide)).mono ?_; rintro e w4 ⟨v4, rfl, ho4, hb4⟩
    obtain ⟨a4, c4, rfl⟩ : ∃ a c, v4 = .slice a nL c := (by have h9 := ho4.forms; rw [ints_len, ← HLn.out] at h9; exact h9)
    have C4 := Lib.hid (C3.out.call hb4)
    have G4 := Lib.hid (grown_below0 G3.out hb4)
    have RL := Lib.hid (OwnI.rd ho4)
    have OF := Lib.hid (own_above ho4 (Cur.lt C3.out))
    clear ho4 hb4
    go_wp2_with fail
    refine (cur_pick_any b (N + 6) nL zs cv _ C4.out (by omega) (by omega) HR.out).mono ?_; rintro e w5 ⟨x5, rfl, hx5, _, hc5, hg5⟩
    have hx5 := hx5 hL1
    have C5 := Lib.hid hc5
    have G5 := Lib.hid (grown_trans0 G4.out hg5)
    obtain ⟨g, off, rfl, y, cy⟩ := code_cell RL.out HLn.out hx5 hg5 OF.out
    have i5 : (x5 : Int) < (nL : Int) := by omega
    clear hc5 hg5
    go_wp2_with fail
    go_ret
    exact ⟨_, rfl, C5.out.le (by omega), G5.out⟩
  · go_wp2_with fail
    refine (spec_l15Codes_any 1 _ (by decide) (by decide)).mono ?_; rintro e w4 ⟨v4, rfl, ho4, hb4⟩
    obtain ⟨a4, c4, rfl⟩ : ∃ a c, v4 = .slice a nL c := (by have h9 := ho4.forms; rw [ints_len, ← HLn.out] at h9; exact h9)
    have C4 := Lib.hid (C3.out.call hb4)
    have G4 := Lib.hid (grown_below0 G3.out hb4)
    have RL := Lib.hid (OwnI.rd ho4)
    have OF := Lib.hid (own_above ho4 (Cur.lt C3.out))
    clear ho4 hb4
    go_wp2_with fail
    replace C4 := Lib.hid (C4.out.call (show Below w4.heap.size w4 w4.drew from (by repeat (first | exact Below.refl _ _ | assumption | refine Below.drew ?_ | refine below_drewN ?_ _ | refine Below.alloc ?_ (by first | omega | (simp <;> omega)) _ | refine Below.setCell ?_ (by first | omega | (simp <;> omega)) _ | refine Below.trans ?_ (Below.mono (by assumption) (by first | omega | (simp <;> omega)))))))
    replace G4 := Lib.hid (grown_trans0 G4.out (drew_grown _ _))
    replace RL := Lib.hid (Rd.below RL.out (show Below w4.heap.size w4 w4.drew from (by repeat (first | exact Below.refl _ _ | assumption | refine Below.drew ?_ | refine below_drewN ?_ _ | refine Below.alloc ?_ (by first | omega | (simp <;> omega)) _ | refine Below.setCell ?_ (by first | omega | (simp <;> omega)) _ | refine Below.trans ?_ (Below.mono (by assumption) (by first | omega | (simp <;> omega)))))) rfl)
    refine AnyB.begin (S := (fun w' => True)) [] (by kernel_rfl) ?_ (fun hHeld0 => ?_)
    · ((try dsimp only); (try trivial))
    refine AnyB.takeQ (i := 0) (oi := _) (v := ?_) (by simp only [List.getElem?_toArray, List.getElem?_cons_zero, List.getElem?_cons_succ]; rfl) (by kernel_rfl) (by kernel_rfl) (by kernel_rfl) (by intro _ _ _ h; exact h) (Or.inl ⟨by rfl, ?_⟩) ?_
    rotate_left
    · (intro w hSw; (try dsimp only at hSw); go_simp; (try (with_reducible rfl)))
    try simp only [Act.put, List.setIfInBounds_toArray, List.set_cons_zero, List.set_cons_succ]
    refine AnyB.takeQ (i := 1) (oi := _) (v := ?_) (by simp only [List.getElem?_toArray, List.getElem?_cons_zero, List.getElem?_cons_succ]; rfl) (by kernel_rfl) (by kernel_rfl) (by kernel_rfl) (by intro _ _ _ h; exact h) (Or.inl ⟨by rfl, ?_⟩) ?_
    rotate_left
    · (intro w hSw; (try dsimp only at hSw); go_simp; (try (with_reducible rfl)))
    try simp only [Act.put, List.setIfInBounds_toArray, List.set_cons_zero, List.set_cons_succ]
    refine AnyB.takeQ (i := 2) (oi := _) (v := ?_) (by simp only [List.getElem?_toArray, List.getElem?_cons_zero, List.getElem?_cons_succ]; rfl) (by kernel_rfl) (by kernel_rfl) (by kernel_rfl) (by intro _ _ _ h; exact h) (Or.inl ⟨by rfl, ?_⟩) ?_
    rotate_left
    · (intro w hSw; (try dsimp only at hSw); go_simp; (try (with_reducible rfl)))
    try simp only [Act.put, List.setIfInBounds_toArray, List.set_cons_zero, List.set_cons_succ]
    refine AnyB.takeQ (i := 3) (oi := _) (v := ?_) (by simp only [List.getElem?_toArray, List.getElem?_cons_zero, List.getElem?_cons_succ]; rfl) (by kernel_rfl) (by kernel_rfl) (by kernel_rfl) (by intro _ _ _ h; exact h) (Or.inl ⟨by rfl, ?_⟩) ?_
    rotate_left
    · (intro w hSw; (try dsimp only at hSw); go_simp; (try (with_reducible rfl)))
    try simp only [Act.put, List.setIfInBounds_toArray, List.set_cons_zero, List.set_cons_succ]
    refine AnyB.takeQ (i := 7) (oi := _) (v := ?_) (by simp only [List.getElem?_toArray, List.getElem?_cons_zero, List.getElem?_cons_succ]; rfl) (by kernel_rfl) (by kernel_rfl) (by kernel_rfl) (by intro _ _ _ h; exact h) (Or.inl ⟨by rfl, ?_⟩) ?_
    rotate_left
    · (intro w hSw; (try dsimp only at hSw); go_simp; (try (with_reducible rfl)))
    try simp only [Act.put, List.setIfInBounds_toArray, List.set_cons_zero, List.set_cons_succ]
    refine AnyB.takeQ (i := 8) (oi := _) (v := ?_) (by simp only [List.getElem?_toArray, List.getElem?_cons_zero, List.getElem?_cons_succ]; rfl) (by kernel_rfl) (by kernel_rfl) (by kernel_rfl) (by intro _ _ _ h; exact h) (Or.inl ⟨by rfl, ?_⟩) ?_
    rotate_left
    · (intro w hSw; (try dsimp only at hSw); go_simp; (try (with_reducible rfl)))
    try simp only [Act.put, List.setIfInBounds_toArray, List.set_cons_zero, List.set_cons_succ]
    refine AnyB.takeQ (i := 9) (oi := _) (v := ?_) (by simp only [List.getElem?_toArray, List.getElem?_cons_zero, List.getElem?_cons_succ]; rfl) (by kernel_rfl) (by kernel_rfl) (by kernel_rfl) (by intro _ _ _ h; exact h) (Or.inl ⟨by rfl, ?_⟩) ?_
    rotate_left
    · (intro w hSw; (try dsimp only at hSw); go_simp; (try (with_reducible rfl)))
    try simp only [Act.put, List.setIfInBounds_toArray, List.set_cons_zero, List.set_cons_succ]
    refine AnyB.takeQ (i := 10) (oi := _) (v := ?_) (by simp only [List.getElem?_toArray, List.getElem?_cons_zero, List.getElem?_cons_succ]; rfl) (by kernel_rfl) (by kernel_rfl) (by kernel_rfl) (by intro _ _ _ h; exact h) (Or.inl ⟨by rfl, ?_⟩) ?_
    rotate_left
    · (intro w hSw; (try dsimp only at hSw); go_simp; (try (with_reducible rfl)))
    try simp only [Act.put, List.setIfInBounds_toArray, List.set_cons_zero, List.set_cons_succ]
    refine AnyB.takeQ (i := 11) (oi := _) (v := ?_) (by simp only [List.getElem?_toArray, List.getElem?_cons_zero, List.getElem?_cons_succ]; rfl) (by kernel_rfl) (by kernel_rfl) (by kernel_rfl) (by intro _ _ _ h; exact h) (Or.inl ⟨by rfl, ?_⟩) ?_
    rotate_left
    · (intro w hSw; (try dsimp only at hSw); go_simp; (try (with_reducible rfl)))
    try simp only [Act.put, List.setIfInBounds_toArray, List.set_cons_zero, List.set_cons_succ]
    refine AnyB.each (rs := [4]) (by kernel_rfl) (by simp) ?_
    refine EachB.cons rfl (fun K hK hB => ?_) ?_
    · skip
      (go_simp; go_at_call 65; refine (cur_pick_any b (N + 6) nL zs cv _ C4.out (by omega) (by omega) HR.out).mono ?_; rintro e w5 ⟨x5, rfl, hx5, _, hc5, hg5⟩; have hx5 := hx5 hL1; have C5 := Lib.hid hc5; have G5 := Lib.hid (grown_trans0 G4.out hg5); obtain ⟨g, off, rfl, y, cy⟩ := code_cell RL.out HLn.out hx5 hg5 OF.out; have i5 : (x5 : Int) < (nL : Int) := (by omega); clear hc5 hg5; dsimp only)
      refine hK.out _ _ ?_ (fun hHeld1 => ?_)
      · ((try dsimp only); (try trivial))
      clear hB hK K hHeld0
      refine AnyB.takeQ (i := 5) (oi := _) (v := ?_) (by simp only [List.getElem?_toArray, List.getElem?_cons_zero, List.getElem?_cons_succ]; rfl) (by kernel_rfl) (by kernel_rfl) (by kernel_rfl) (by intro _ _ _ h; exact h) (Or.inl ⟨by rfl, ?_⟩) ?_
      rotate_left
      · (intro w hSw; (try dsimp only at hSw); go_simp; (try (with_reducible rfl)))
      try simp only [Act.put, List.setIfInBounds_toArray, List.set_cons_zero, List.set_cons_succ]
      refine AnyB.each (rs := [6, 12]) (by kernel_rfl) (by simp) ?_
      refine EachB.cons rfl (fun K hK hB => ?_) ?_
      · skip
        (go_simp)
        refine hK.out _ _ ?_ (fun hHeld2 => ?_)
        · ((try dsimp only); (try trivial))
        clear hB hK K hHeld1
        refine AnyB.each (rs := [12]) (by kernel_rfl) (by simp) ?_
        refine EachB.cons rfl (fun K hK hB => ?_) ?_
        · skip
          (go_simp; go_at_call 65; refine (cur_pick_any b (N + 8) 1 zs cv _ C5.out (by omega) (by omega) HR.out).mono ?_; rintro e w6 ⟨x6, rfl, hx6, hy6, hc6, hg6⟩; replace cy := code_keep cy hg6 OF.out; have C6 := Lib.hid hc6; have G6 := Lib.hid (grown_trans0 G5.out hg6); clear hc6 hg6; dsimp only)
          refine hK.out _ _ ?_ (fun hHeld3 => ?_)
          · ((try dsimp only); (try trivial))
          clear hB hK K hHeld2
          refine AnyB.takeQ (i := 13) (oi := _) (v := ?_) (by simp only [List.getElem?_toArray, List.getElem?_cons_zero, List.getElem?_cons_succ]; rfl) (by kernel_rfl) (by kernel_rfl) (by kernel_rfl) (by intro _ _ _ h; exact h) (Or.inl ⟨by rfl, ?_⟩) ?_
          rotate_left
          · (intro w hSw; (try dsimp only at hSw); go_simp; (try (with_reducible rfl)))
          try simp only [Act.put, List.setIfInBounds_toArray, List.set_cons_zero, List.set_cons_succ]
          refine AnyB.takeQ (i := 14) (oi := _) (v := ?_) (by simp only [List.getElem?_toArray, List.getElem?_cons_zero, List.getElem?_cons_succ]; rfl) (by kernel_rfl) (by kernel_rfl) (by kernel_rfl) (by intro _ _ _ h; exact h) (Or.inl ⟨by rfl, ?_⟩) ?_
          rotate_left
          · (intro w hSw; (try dsimp only at hSw); go_simp; (try (with_reducible rfl)))
          try simp only [Act.put, List.setIfInBounds_toArray, List.set_cons_zero, List.set_cons_succ]
          refine AnyB.takeQ (i := 15) (oi := _) (v := ?_) (by simp only [List.getElem?_toArray, List.getElem?_cons_zero, List.getElem?_cons_succ]; rfl) (by kernel_rfl) (by kernel_rfl) (by kernel_rfl) (by intro _ _ _ h; exact h) (Or.inl ⟨by rfl, ?_⟩) ?_
          rotate_left
          · (intro w hSw; (try dsimp only at hSw); go_simp; (try (with_reducible rfl)))
          try simp only [Act.put, List.setIfInBounds_toArray, List.set_cons_zero, List.set_cons_succ]
          refine AnyB.takeQ (i := 16) (oi := _) (v := ?_) (by simp only [List.getElem?_toArray, List.getElem?_cons_zero, List.getElem?_cons_succ]; rfl) (by kernel_rfl) (by kernel_rfl) (by kernel_rfl) (by intro _ _ _ h; exact h) (Or.inl ⟨by rfl, ?_⟩) ?_
          rotate_left
          · (intro w hSw; (try dsimp only at hSw); go_simp; (try (with_reducible rfl)))
          try simp only [Act.put, List.setIfInBounds_toArray, List.set_cons_zero, List.set_cons_succ]
          refine AnyB.none (by kernel_rfl) ?_ _
          go_wp2_with fail
          go_ret
          exact ⟨_, rfl, C6.out.le (by omega), G6.out⟩
        exact EachB.nil
      refine EachB.cons rfl (fun K hK hB => ?_) ?_
      · skip
        (go_simp; go_at_call 65; refine (cur_pick_any b (N + 8) 1 zs cv _ C5.out (by omega) (by omega) HR.out).mono ?_; rintro e w6 ⟨x6, rfl, hx6, hy6, hc6, hg6⟩; replace cy := code_keep cy hg6 OF.out; have C6 := Lib.hid hc6; have G6 := Lib.hid (grown_trans0 G5.out hg6); clear hc6 hg6; dsimp only)
        refine hK.out _ _ ?_ (fun hHeld4 => ?_)
        · ((try dsimp only); (try trivial))
        clear hB hK K hHeld1
        refine AnyB.takeQ (i := 13) (oi := _) (v := ?_) (by simp only [List.getElem?_toArray, List.getElem?_cons_zero, List.getElem?_cons_succ]; rfl) (by kernel_rfl) (by kernel_rfl) (by kernel_rfl) (by intro _ _ _ h; exact h) (Or.inl ⟨by rfl, ?_⟩) ?_
        rotate_left
        · (intro w hSw; (try dsimp only at hSw); go_simp; (try (with_reducible rfl)))
        try simp only [Act.put, List.setIfInBounds_toArray, List.set_cons_zero, List.set_cons_succ]
        refine AnyB.takeQ (i := 14) (oi := _) (v := ?_) (by simp only [List.getElem?_toArray, List.getElem?_cons_zero, List.getElem?_cons_succ]; rfl) (by kernel_rfl) (by kernel_rfl) (by kernel_rfl) (by intro _ _ _ h; exact h) (Or.inl ⟨by rfl, ?_⟩) ?_
        rotate_left
        · (intro w hSw; (try dsimp only at hSw); go_simp; (try (with_reducible rfl)))
        try simp only [Act.put, List.setIfInBounds_toArray, List.set_cons_zero, List.set_cons_succ]
        refine AnyB.each (rs := [6]) (by kernel_rfl) (by simp) ?_
        refine EachB.cons rfl (fun K hK hB => ?_) ?_
        · skip
          (go_simp)
          refine hK.out _ _ ?_ (fun hHeld5 => ?_)
          · ((try dsimp only); (try trivial))
          clear hB hK K hHeld4
          refine AnyB.takeQ (i := 15) (oi := _) (v := ?_) (by simp only [List.getElem?_toArray, List.getElem?_cons_zero, List.getElem?_cons_succ]; rfl) (by kernel_rfl) (by kernel_rfl) (by kernel_rfl) (by intro _ _ _ h; exact h) (Or.inl ⟨by rfl, ?_⟩) ?_
          rotate_left
          · (intro w hSw; (try dsimp only at hSw); go_simp; (try (with_reducible rfl)))
          try simp only [Act.put, List.setIfInBounds_toArray, List.set_cons_zero, List.set_cons_succ]
          refine AnyB.takeQ (i := 16) (oi := _) (v := ?_) (by simp only [List.getElem?_toArray, List.getElem?_cons_zero, List.getElem?_cons_succ]; rfl) (by kernel_rfl) (by kernel_rfl) (by kernel_rfl) (by intro _ _ _ h; exact h) (Or.inl ⟨by rfl, ?_⟩) ?_
          rotate_left
          · (intro w hSw; (try dsimp only at hSw); go_simp; (try (with_reducible rfl)))
          try simp only [Act.put, List.setIfInBounds_toArray, List.set_cons_zero, List.set_cons_succ]
          refine AnyB.none (by kernel_rfl) ?_ _
          go_wp2_with fail
          go_ret
          exact ⟨_, rfl, C6.out.le (by omega), G6.out⟩
        exact EachB.nil
      exact EachB.nil
    exact EachB.nil
  · go_wp2_with fail
    go_ret
    exact ⟨_, rfl, C3.out.le (by omega), G3.out⟩
set_option maxHeartbeats 8000000 in
theorem cur_oddWord_2 (b N : Nat) (zs : List Int) (cv : Value) (w : World) (h : Cur w b zs cv N) (hN : N + 10 ≤ 1000) (hr : ∀ z ∈ zs, 0 ≤ z ∧ z ≤ 255) :
    Calls Try.prog 52 #[.pointer (some ⟨b, 0, none⟩), .int .i64 2] w fun e w' => ∃ x : Int, e = .returned (.int .i64 x) ∧ Cur w' b zs cv (N + 10) ∧ w.grownBy w' (some b) := by
  have H := Lib.hid h
  have HR := Lib.hid hr
  clear h hr
  obtain ⟨nL, hnL⟩ : ∃ k, k = (codesS 2).length := ⟨_, rfl⟩
  have hL1 : 1 ≤ nL := by rw [hnL]; exact codes_pos (by decide) (by decide)
  have hL2 : nL ≤ 64 := by rw [hnL]; exact (code_ok (n := 2) (by decide) (by decide)).few
  have HLn := Lib.hid hnL
  clear hnL
  go_enter Try.func52, Try.ntmps52
  go_wp2_with fail
  refine (cur_pick_any b N 65536 zs cv _ H.out (by omega) (by omega) HR.out).mono ?_; rintro e w1 ⟨x1, rfl, _, hx1, hc1, hg1⟩
  have C1 := Lib.hid hc1
  have G1 := Lib.hid hg1
  clear hc1 hg1
  go_wp2_with fail
  refine (cur_pick_any b (N + 2) 32768 zs cv _ C1.out (by omega) (by omega) HR.out).mono ?_; rintro e w2 ⟨x2, rfl, _, hx2, hc2, hg2⟩
  have C2 := Lib.hid hc2
  have G2 := Lib.hid (grown_trans0 G1.out hg2)
  clear hc2 hg2
  go_wp2_with fail
  refine (cur_pick_any b (N + 4) 3 zs cv _ C2.out (by omega) (by omega) HR.out).mono ?_; rintro e w3 ⟨x3, rfl, hx3, _, hc3, hg3⟩
  have C3 := Lib.hid hc3
  have G3 := Lib.hid (grown_trans0 G2.out hg3)
  clear hc3 hg3
  have h3 : x3 = 0 ∨ x3 = 1 ∨ x3 = 2 := by have := hx3 (by omega); omega
  clear hx3
  rcases h3 with rfl | rfl | rfl
  · go_wp2_with fail
    refine (spec_l15Codes_any 2 _ (by decide) (by decide)).mono ?_; rintro e w4 ⟨v4, rfl, ho4, hb4⟩
    obtain ⟨a4, c4, rfl⟩ : ∃ a c, v4 = .slice a nL c := (by have h9 := ho4.forms; rw [ints_len, ← HLn.out] at h9; exact h9)
    have C4 := Lib.hid (C3.out.call hb4)
    have G4 := Lib.hid (grown_below0 G3.out hb4)
    have RL := Lib.hid (OwnI.rd ho4)
    have OF := Lib.hid (own_above ho4 (Cur.lt C3.out))
    clear ho4 hb4
    go_wp2_with fail
    refine (cur_pick_any b (N + 6) nL zs cv _ C4.out (by omega) (by omega) HR.out).mono ?_; rintro e w5 ⟨x5, rfl, hx5, _, hc5, hg5⟩
    have hx5 := hx5 hL1
    have C5 := Lib.hid hc5
    have G5 := Lib.hid (grown_trans0 G4.out hg5)
    obtain ⟨g, off, rfl, y, cy⟩ := code_cell RL.out HLn.out hx5 hg5 OF.out
    have i5 : (x5 : Int) < (nL : Int) := by omega
    clear hc5 hg5
    go_wp2_with fail
    go_ret
    exact ⟨_, rfl, C5.out.le (by omega), G5.out⟩
  · go_wp2_with fail
    refine (spec_l15Codes_any 2 _ (by decide) (by decide)).mono ?_; rintro e w4 ⟨v4, rfl, ho4, hb4⟩
    obtain ⟨a4, c4, rfl⟩ : ∃ a c, v4 = .slice a nL c := (by have h9 := ho4.forms; rw [ints_len, ← HLn.out] at h9; exact h9)
    have C4 := Lib.hid (C3.out.call hb4)
    have G4 := Lib.hid (grown_below0 G3.out hb4)
    have RL := Lib.hid (OwnI.rd ho4)
    have OF := Lib.hid (own_above ho4 (Cur.lt C3.out))
    clear ho4 hb4
    go_wp2_with fail
    replace C4 := Lib.hid (C4.out.call (show Below w4.heap.size w4 w4.drew from (by repeat (first | exact Below.refl _ _ | assumption | refine Below.drew ?_ | refine below_drewN ?_ _ | refine Below.alloc ?_ (by first | omega | (simp <;> omega)) _ | refine Below.setCell ?_ (by first | omega | (simp <;> omega)) _ | refine Below.trans ?_ (Below.mono (by assumption) (by first | omega | (simp <;> omega)))))))
    replace G4 := Lib.hid (grown_trans0 G4.out (drew_grown _ _))
    replace RL := Lib.hid (Rd.below RL.out (show Below w4.heap.size w4 w4.drew from (by repeat (first | exact Below.refl _ _ | assumption | refine Below.drew ?_ | refine below_drewN ?_ _ | refine Below.alloc ?_ (by first | omega | (simp <;> omega)) _ | refine Below.setCell ?_ (by first | omega | (simp <;> omega)) _ | refine Below.trans ?_ (Below.mono (by assumption) (by first | omega | (simp <;> omega)))))) rfl)
    refine AnyB.begin (S := (fun w' => True)) [] (by kernel_rfl) ?_ (fun hHeld0 => ?_)
    · ((try dsimp only); (try trivial))
    refine AnyB.takeQ (i := 0) (oi := _) (v := ?_) (by simp only [List.getElem?_toArray, List.getElem?_cons_zero, List.getElem?_cons_succ]; rfl) (by kernel_rfl) (by kernel_rfl) (by kernel_rfl) (by intro _ _ _ h; exact h) (Or.inl ⟨by rfl, ?_⟩) ?_
    rotate_left
    · (intro w hSw; (try dsimp only at hSw); go_simp; (try (with_reducible rfl)))
    try simp only [Act.put, List.setIfInBounds_toArray, List.set_cons_zero, List.set_cons_succ]
    refine AnyB.takeQ (i := 1) (oi := _) (v := ?_) (by simp only [List.getElem?_toArray, List.getElem?_cons_zero, List.getElem?_cons_succ]; rfl) (by kernel_rfl) (by kernel_rfl) (by kernel_rfl) (by intro _ _ _ h; exact h) (Or.inl ⟨by rfl, ?_⟩) ?_
    rotate_left
    · (intro w hSw; (try dsimp only at hSw); go_simp; (try (with_reducible rfl)))
    try simp only [Act.put, List.setIfInBounds_toArray, List.set_cons_zero, List.set_cons_succ]
    refine AnyB.takeQ (i := 2) (oi := _) (v := ?_) (by simp only [List.getElem?_toArray, List.getElem?_cons_zero, List.getElem?_cons_succ]; rfl) (by kernel_rfl) (by kernel_rfl) (by kernel_rfl) (by intro _ _ _ h; exact h) (Or.inl ⟨by rfl, ?_⟩) ?_
    rotate_left
    · (intro w hSw; (try dsimp only at hSw); go_simp; (try (with_reducible rfl)))
    try simp only [Act.put, List.setIfInBounds_toArray, List.set_cons_zero, List.set_cons_succ]
    refine AnyB.takeQ (i := 3) (oi := _) (v := ?_) (by simp only [List.getElem?_toArray, List.getElem?_cons_zero, List.getElem?_cons_succ]; rfl) (by kernel_rfl) (by kernel_rfl) (by kernel_rfl) (by intro _ _ _ h; exact h) (Or.inl ⟨by rfl, ?_⟩) ?_
    rotate_left
    · (intro w hSw; (try dsimp only at hSw); go_simp; (try (with_reducible rfl)))
    try simp only [Act.put, List.setIfInBounds_toArray, List.set_cons_zero, List.set_cons_succ]
    refine AnyB.takeQ (i := 7) (oi := _) (v := ?_) (by simp only [List.getElem?_toArray, List.getElem?_cons_zero, List.getElem?_cons_succ]; rfl) (by kernel_rfl) (by kernel_rfl) (by kernel_rfl) (by intro _ _ _ h; exact h) (Or.inl ⟨by rfl, ?_⟩) ?_
    rotate_left
    · (intro w hSw; (try dsimp only at hSw); go_simp; (try (with_reducible rfl)))
    try simp only [Act.put, List.setIfInBounds_toArray, List.set_cons_zero, List.set_cons_succ]
    refine AnyB.takeQ (i := 8) (oi := _) (v := ?_) (by simp only [List.getElem?_toArray, List.getElem?_cons_zero, List.getElem?_cons_succ]; rfl) (by kernel_rfl) (by kernel_rfl) (by kernel_rfl) (by intro _ _ _ h; exact h) (Or.inl ⟨by rfl, ?_⟩) ?_
    rotate_left
    · (intro w hSw; (try dsimp only at hSw); go_simp; (try (with_reducible rfl)))
    try simp only [Act.put, List.setIfInBounds_toArray, List.set_cons_zero, List.set_cons_succ]
    refine AnyB.takeQ (i := 9) (oi := _) (v := ?_) (by simp only [List.getElem?_toArray, List.getElem?_cons_zero, List.getElem?_cons_succ]; rfl) (by kernel_rfl) (by kernel_rfl) (by kernel_rfl) (by intro _ _ _ h; exact h) (Or.inl ⟨by rfl, ?_⟩) ?_
    rotate_left
    · (intro w hSw; (try dsimp only at hSw); go_simp; (try (with_reducible rfl)))
    try simp only [Act.put, List.setIfInBounds_toArray, List.set_cons_zero, List.set_cons_succ]
    refine AnyB.takeQ (i := 10) (oi := _) (v := ?_) (by simp only [List.getElem?_toArray, List.getElem?_cons_zero, List.getElem?_cons_succ]; rfl) (by kernel_rfl) (by kernel_rfl) (by kernel_rfl) (by intro _ _ _ h; exact h) (Or.inl ⟨by rfl, ?_⟩) ?_
    rotate_left
    · (intro w hSw; (try dsimp only at hSw); go_simp; (try (with_reducible rfl)))
    try simp only [Act.put, List.setIfInBounds_toArray, List.set_cons_zero, List.set_cons_succ]
    refine AnyB.takeQ (i := 11) (oi := _) (v := ?_) (by simp only [List.getElem?_toArray, List.getElem?_cons_zero, List.getElem?_cons_succ]; rfl) (by kernel_rfl) (by kernel_rfl) (by kernel_rfl) (by intro _ _ _ h; exact h) (Or.inl ⟨by rfl, ?_⟩) ?_
    rotate_left
    · (intro w hSw; (try dsimp only at hSw); go_simp; (try (with_reducible rfl)))
    try simp only [Act.put, List.setIfInBounds_toArray, List.set_cons_zero, List.set_cons_succ]
    refine AnyB.each (rs := [4]) (by kernel_rfl) (by simp) ?_
    refine EachB.cons rfl (fun K hK hB => ?_) ?_
    · skip
      (go_simp; go_at_call 65; refine (cur_pick_any b (N + 6) nL zs cv _ C4.out (by omega) (by omega) HR.out).mono ?_; rintro e w5 ⟨x5, rfl, hx5, _, hc5, hg5⟩; have hx5 := hx5 hL1; have C5 := Lib.hid hc5; have G5 := Lib.hid (grown_trans0 G4.out hg5); obtain ⟨g, off, rfl, y, cy⟩ := code_cell RL.out HLn.out hx5 hg5 OF.out; have i5 : (x5 : Int) < (nL : Int) := (by omega); clear hc5 hg5; dsimp only)
      refine hK.out _ _ ?_ (fun hHeld1 => ?_)
      · ((try dsimp only); (try trivial))
      clear hB hK K hHeld0
      refine AnyB.takeQ (i := 5) (oi := _) (v := ?_) (by simp only [List.getElem?_toArray, List.getElem?_cons_zero, List.getElem?_cons_succ]; rfl) (by kernel_rfl) (by kernel_rfl) (by kernel_rfl) (by intro _ _ _ h; exact h) (Or.inl ⟨by rfl, ?_⟩) ?_
      rotate_left
      · (intro w hSw; (try dsimp only at hSw); go_simp; (try (with_reducible rfl)))
      try simp only [Act.put, List.setIfInBounds_toArray, List.set_cons_zero, List.set_cons_succ]
      refine AnyB.each (rs := [6, 12]) (by kernel_rfl) (by simp) ?_
      refine EachB.cons rfl (fun K hK hB => ?_) ?_
      · skip
        (go_simp)
        refine hK.out _ _ ?_ (fun hHeld2 => ?_)
        · ((try dsimp only); (try trivial))
        clear hB hK K hHeld1
        refine AnyB.each (rs := [12]) (by kernel_rfl) (by simp) ?_
        refine EachB.cons rfl (fun K hK hB => ?_) ?_
        · skip
          (go_simp; go_at_call 65; refine (cur_pick_any b (N + 8) 3 zs cv _ C5.out (by omega) (by omega) HR.out).mono ?_; rintro e w6 ⟨x6, rfl, hx6, hy6, hc6, hg6⟩; replace cy := code_keep cy hg6 OF.out; have C6 := Lib.hid hc6; have G6 := Lib.hid (grown_trans0 G5.out hg6); clear hc6 hg6; dsimp only)
          refine hK.out _ _ ?_ (fun hHeld3 => ?_)
          · ((try dsimp only); (try trivial))
          clear hB hK K hHeld2
          refine AnyB.takeQ (i := 13) (oi := _) (v := ?_) (by simp only [List.getElem?_toArray, List.getElem?_cons_zero, List.getElem?_cons_succ]; rfl) (by kernel_rfl) (by kernel_rfl) (by kernel_rfl) (by intro _ _ _ h; exact h) (Or.inl ⟨by rfl, ?_⟩) ?_
          rotate_left
          · (intro w hSw; (try dsimp only at hSw); go_simp; (try (with_reducible rfl)))
          try simp only [Act.put, List.setIfInBounds_toArray, List.set_cons_zero, List.set_cons_succ]
          refine AnyB.takeQ (i := 14) (oi := _) (v := ?_) (by simp only [List.getElem?_toArray, List.getElem?_cons_zero, List.getElem?_cons_succ]; rfl) (by kernel_rfl) (by kernel_rfl) (by kernel_rfl) (by intro _ _ _ h; exact h) (Or.inl ⟨by rfl, ?_⟩) ?_
          rotate_left
          · (intro w hSw; (try dsimp only at hSw); go_simp; (try (with_reducible rfl)))
          try simp only [Act.put, List.setIfInBounds_toArray, List.set_cons_zero, List.set_cons_succ]
          refine AnyB.takeQ (i := 15) (oi := _) (v := ?_) (by simp only [List.getElem?_toArray, List.getElem?_cons_zero, List.getElem?_cons_succ]; rfl) (by kernel_rfl) (by kernel_rfl) (by kernel_rfl) (by intro _ _ _ h; exact h) (Or.inl ⟨by rfl, ?_⟩) ?_
          rotate_left
          · (intro w hSw; (try dsimp only at hSw); go_simp; (try (with_reducible rfl)))
          try simp only [Act.put, List.setIfInBounds_toArray, List.set_cons_zero, List.set_cons_succ]
          refine AnyB.takeQ (i := 16) (oi := _) (v := ?_) (by simp only [List.getElem?_toArray, List.getElem?_cons_zero, List.getElem?_cons_succ]; rfl) (by kernel_rfl) (by kernel_rfl) (by kernel_rfl) (by intro _ _ _ h; exact h) (Or.inl ⟨by rfl, ?_⟩) ?_
          rotate_left
          · (intro w hSw; (try dsimp only at hSw); go_simp; (try (with_reducible rfl)))
          try simp only [Act.put, List.setIfInBounds_toArray, List.set_cons_zero, List.set_cons_succ]
          refine AnyB.none (by kernel_rfl) ?_ _
          go_wp2_with fail
          go_ret
          exact ⟨_, rfl, C6.out.le (by omega), G6.out⟩
        exact EachB.nil
      refine EachB.cons rfl (fun K hK hB => ?_) ?_
      · skip
        (go_simp; go_at_call 65; refine (cur_pick_any b (N + 8) 3 zs cv _ C5.out (by omega) (by omega) HR.out).mono ?_; rintro e w6 ⟨x6, rfl, hx6, hy6, hc6, hg6⟩; replace cy := code_keep cy hg6 OF.out; have C6 := Lib.hid hc6; have G6 := Lib.hid (grown_trans0 G5.out hg6); clear hc6 hg6; dsimp only)
        refine hK.out _ _ ?_ (fun hHeld4 => ?_)
        · ((try dsimp only); (try trivial))
        clear hB hK K hHeld1
        refine AnyB.takeQ (i := 13) (oi := _) (v := ?_) (by simp only [List.getElem?_toArray, List.getElem?_cons_zero, List.getElem?_cons_succ]; rfl) (by kernel_rfl) (by kernel_rfl) (by kernel_rfl) (by intro _ _ _ h; exact h) (Or.inl ⟨by rfl, ?_⟩) ?_
        rotate_left
        · (intro w hSw; (try dsimp only at hSw); go_simp; (try (with_reducible rfl)))
        try simp only [Act.put, List.setIfInBounds_toArray, List.set_cons_zero, List.set_cons_succ]
        refine AnyB.takeQ (i := 14) (oi := _) (v := ?_) (by simp only [List.getElem?_toArray, List.getElem?_cons_zero, List.getElem?_cons_succ]; rfl) (by kernel_rfl) (by kernel_rfl) (by kernel_rfl) (by intro _ _ _ h; exact h) (Or.inl ⟨by rfl, ?_⟩) ?_
        rotate_left
        · (intro w hSw; (try dsimp only at hSw); go_simp; (try (with_reducible rfl)))
        try simp only [Act.put, List.setIfInBounds_toArray, List.set_cons_zero, List.set_cons_succ]
        refine AnyB.each (rs := [6]) (by kernel_rfl) (by simp) ?_
        refine EachB.cons rfl (fun K hK hB => ?_) ?_
        · skip
          (go_simp)
          refine hK.out _ _ ?_ (fun hHeld5 => ?_)
          · ((try dsimp only); (try trivial))
          clear hB hK K hHeld4
          refine AnyB.takeQ (i := 15) (oi := _) (v := ?_) (by simp only [List.getElem?_toArray, List.getElem?_cons_zero, List.getElem?_cons_succ]; rfl) (by kernel_rfl) (by kernel_rfl) (by kernel_rfl) (by intro _ _ _ h; exact h) (Or.inl ⟨by rfl, ?_⟩) ?_
          rotate_left
          · (intro w hSw; (try dsimp only at hSw); go_simp; (try (with_reducible rfl)))
          try simp only [Act.put, List.setIfInBounds_toArray, List.set_cons_zero, List.set_cons_succ]
          refine AnyB.takeQ (i := 16) (oi := _) (v := ?_) (by simp only [List.getElem?_toArray, List.getElem?_cons_zero, List.getElem?_cons_succ]; rfl) (by kernel_rfl) (by kernel_rfl) (by kernel_rfl) (by intro _ _ _ h; exact h) (Or.inl ⟨by rfl, ?_⟩) ?_
          rotate_left
          · (intro w hSw; (try dsimp only at hSw); go_simp; (try (with_reducible rfl)))
          try simp only [Act.put, List.setIfInBounds_toArray, List.set_cons_zero, List.set_cons_succ]
          refine AnyB.none (by kernel_rfl) ?_ _
          go_wp2_with fail
          go_ret
          exact ⟨_, rfl, C6.out.le (by omega), G6.out⟩
        exact EachB.nil
      exact EachB.nil
    exact EachB.nil
  · go_wp2_with fail
    go_ret
    exact ⟨_, rfl, C3.out.le (by omega), G3.out⟩
set_option maxHeartbeats 8000000 in
theorem cur_oddWord_3 (b N : Nat) (zs : List Int) (cv : Value) (w : World) (h : Cur w b zs cv N) (hN : N + 10 ≤ 1000) (hr : ∀ z ∈ zs, 0 ≤ z ∧ z ≤ 255) :
    Calls Try.prog 52 #[.pointer (some ⟨b, 0, none⟩), .int .i64 3] w fun e w' => ∃ x : Int, e = .returned (.int .i64 x) ∧ Cur w' b zs cv (N + 10) ∧ w.grownBy w' (some b) := by
  have H := Lib.hid h
  have HR := Lib.hid hr
  clear h hr
  obtain ⟨nL, hnL⟩ : ∃ k, k = (codesS 3).length := ⟨_, rfl⟩
  have hL1 : 1 ≤ nL := by rw [hnL]; exact codes_pos (by decide) (by decide)
  have hL2 : nL ≤ 64 := by rw [hnL]; exact (code_ok (n := 3) (by decide) (by decide)).few
  have HLn := Lib.hid hnL
  clear hnL
  go_enter Try.func52, Try.ntmps52
  go_wp2_with fail
  refine (cur_pick_any b N 65536 zs cv _ H.out (by omega) (by omega) HR.out).mono ?_; rintro e w1 ⟨x1, rfl, _, hx1, hc1, hg1⟩
  have C1 := Lib.hid hc1
  have G1 := Lib.hid hg1
  clear hc1 hg1
  go_wp2_with fail
  refine (cur_pick_any b (N + 2) 32768 zs cv _ C1.out (by omega) (by omega) HR.out).mono ?_; rintro e w2 ⟨x2, rfl, _, hx2, hc2, hg2⟩
  have C2 := Lib.hid hc2
  have G2 := Lib.hid (grown_trans0 G1.out hg2)
  clear hc2 hg2
  go_wp2_with fail
  refine (cur_pick_any b (N + 4) 3 zs cv _ C2.out (by omega) (by omega) HR.out).mono ?_; rintro e w3 ⟨x3, rfl, hx3, _, hc3, hg3⟩
  have C3 := Lib.hid hc3
  have G3 := Lib.hid (grown_trans0 G2.out hg3)
  clear hc3 hg3
  have h3 : x3 = 0 ∨ x3 = 1 ∨ x3 = 2 := by have := hx3 (by omega); omega
  clear hx3
  rcases h3 with rfl | rfl | rfl
  · go_wp2_with fail
    refine (spec_l15Codes_any 3 _ (by decide) (by decide)).mono ?_; rintro e w4 ⟨v4, rfl, ho4, hb4⟩
    obtain ⟨a4, c4, rfl⟩ : ∃ a c, v4 = .slice a nL c := (by have h9 := ho4.forms; rw [ints_len, ← HLn.out] at h9; exact h9)
    have C4 := Lib.hid (C3.out.call hb4)
    have G4 := Lib.hid (grown_below0 G3.out hb4)
    have RL := Lib.hid (OwnI.rd ho4)
    have OF := Lib.hid (own_above ho4 (Cur.lt C3.out))
    clear ho4 hb4
    go_wp2_with fail
    refine (cur_pick_any b (N + 6) nL zs cv _ C4.out (by omega) (by omega) HR.out).mono ?_; rintro e w5 ⟨x5, rfl, hx5, _, hc5, hg5⟩
    have hx5 := hx5 hL1
    have C5 := Lib.hid hc5
    have G5 := Lib.hid (grown_trans0 G4.out hg5)
    obtain ⟨g, off, rfl, y, cy⟩ := code_cell RL.out HLn.out hx5 hg5 OF.out
    have i5 : (x5 : Int) < (nL : Int) := by omega
    clear hc5 hg5
    go_wp2_with fail
    go_ret
    exact ⟨_, rfl, C5.out.le (by omega), G5.out⟩
  · go_wp2_with fail
    refine (spec_l15Codes_any 3 _ (by decide) (by decide)).mono ?_; rintro e w4 ⟨v4, rfl, ho4, hb4⟩
    obtain ⟨a4, c4, rfl⟩ : ∃ a c, v4 = .slice a nL c := (by have h9 := ho4.forms; rw [ints_len, ← HLn.out] at h9; exact h9)
    have C4 := Lib.hid (C3.out.call hb4)
    have G4 := Lib.hid (grown_below0 G3.out hb4)
    have RL := Lib.hid (OwnI.rd ho4)
    have OF := Lib.hid (own_above ho4 (Cur.lt C3.out))
    clear ho4 hb4
    go_wp2_with fail
    replace C4 := Lib.hid (C4.out.call (show Below w4.heap.size w4 w4.drew from (by repeat (first | exact Below.refl _ _ | assumption | refine Below.drew ?_ | refine below_drewN ?_ _ | refine Below.alloc ?_ (by first | omega | (simp <;> omega)) _ | refine Below.setCell ?_ (by first | omega | (simp <;> omega)) _ | refine Below.trans ?_ (Below.mono (by assumption) (by first | omega | (simp <;> omega)))))))
    replace G4 := Lib.hid (grown_trans0 G4.out (drew_grown _ _))
    replace RL := Lib.hid (Rd.below RL.out (show Below w4.heap.size w4 w4.drew from (by repeat (first | exact Below.refl _ _ | assumption | refine Below.drew ?_ | refine below_drewN ?_ _ | refine Below.alloc ?_ (by first | omega | (simp <;> omega)) _ | refine Below.setCell ?_ (by first | omega | (simp <;> omega)) _ | refine Below.trans ?_ (Below.mono (by assumption) (by first | omega | (simp <;> omega)))))) rfl)
    refine AnyB.begin (S := (fun w' => True)) [] (by kernel_rfl) ?_ (fun hHeld0 => ?_)
    · ((try dsimp only); (try trivial))
    refine AnyB.takeQ (i := 0) (oi := _) (v := ?_) (by simp only [List.getElem?_toArray, List.getElem?_cons_zero, List.getElem?_cons_succ]; rfl) (by kernel_rfl) (by kernel_rfl) (by kernel_rfl) (by intro _ _ _ h; exact h) (Or.inl ⟨by rfl, ?_⟩) ?_
    rotate_left
    · (intro w hSw; (try dsimp only at hSw); go_simp; (try (with_reducible rfl)))
    try simp only [Act.put, List.setIfInBounds_toArray, List.set_cons_zero, List.set_cons_succ]
    refine AnyB.takeQ (i := 1) (oi := _) (v := ?_) (by simp only [List.getElem?_toArray, List.getElem?_cons_zero, List.getElem?_cons_succ]; rfl) (by kernel_rfl) (by kernel_rfl) (by kernel_rfl) (by intro _ _ _ h; exact h) (Or.inl ⟨by rfl, ?_⟩) ?_
    rotate_left
    · (intro w hSw; (try dsimp only at hSw); go_simp; (try (with_reducible rfl)))
    try simp only [Act.put, List.setIfInBounds_toArray, List.set_cons_zero, List.set_cons_succ]
    refine AnyB.takeQ (i := 2) (oi := _) (v := ?_) (by simp only [List.getElem?_toArray, List.getElem?_cons_zero, List.getElem?_cons_succ]; rfl) (by kernel_rfl) (by kernel_rfl) (by kernel_rfl) (by intro _ _ _ h; exact h) (Or.inl ⟨by rfl, ?_⟩) ?_
    rotate_left
    · (intro w hSw; (try dsimp only at hSw); go_simp; (try (with_reducible rfl)))
    try simp only [Act.put, List.setIfInBounds_toArray, List.set_cons_zero, List.set_cons_succ]
    refine AnyB.takeQ (i := 3) (oi := _) (v := ?_) (by simp only [List.getElem?_toArray, List.getElem?_cons_zero, List.getElem?_cons_succ]; rfl) (by kernel_rfl) (by kernel_rfl) (by kernel_rfl) (by intro _ _ _ h; exact h) (Or.inl ⟨by rfl, ?_⟩) ?_
    rotate_left
    · (intro w hSw; (try dsimp only at hSw); go_simp; (try (with_reducible rfl)))
    try simp only [Act.put, List.setIfInBounds_toArray, List.set_cons_zero, List.set_cons_succ]
    refine AnyB.takeQ (i := 7) (oi := _) (v := ?_) (by simp only [List.getElem?_toArray, List.getElem?_cons_zero, List.getElem?_cons_succ]; rfl) (by kernel_rfl) (by kernel_rfl) (by kernel_rfl) (by intro _ _ _ h; exact h) (Or.inl ⟨by rfl, ?_⟩) ?_
    rotate_left
    · (intro w hSw; (try dsimp only at hSw); go_simp; (try (with_reducible rfl)))
    try simp only [Act.put, List.setIfInBounds_toArray, List.set_cons_zero, List.set_cons_succ]
    refine AnyB.takeQ (i := 8) (oi := _) (v := ?_) (by simp only [List.getElem?_toArray, List.getElem?_cons_zero, List.getElem?_cons_succ]; rfl) (by kernel_rfl) (by kernel_rfl) (by kernel_rfl) (by intro _ _ _ h; exact h) (Or.inl ⟨by rfl, ?_⟩) ?_
    rotate_left
    · (intro w hSw; (try dsimp only at hSw); go_simp; (try (with_reducible rfl)))
    try simp only [Act.put, List.setIfInBounds_toArray, List.set_cons_zero, List.set_cons_succ]
    refine AnyB.takeQ (i := 9) (oi := _) (v := ?_) (by simp only [List.getElem?_toArray, List.getElem?_cons_zero, List.getElem?_cons_succ]; rfl) (by kernel_rfl) (by kernel_rfl) (by kernel_rfl) (by intro _ _ _ h; exact h) (Or.inl ⟨by rfl, ?_⟩) ?_
    rotate_left
    · (intro w hSw; (try dsimp only at hSw); go_simp; (try (with_reducible rfl)))
    try simp only [Act.put, List.setIfInBounds_toArray, List.set_cons_zero, List.set_cons_succ]
    refine AnyB.takeQ (i := 10) (oi := _) (v := ?_) (by simp only [List.getElem?_toArray, List.getElem?_cons_zero, List.getElem?_cons_succ]; rfl) (by kernel_rfl) (by kernel_rfl) (by kernel_rfl) (by intro _ _ _ h; exact h) (Or.inl ⟨by rfl, ?_⟩) ?_
    rotate_left
    · (intro w hSw; (try dsimp only at hSw); go_simp; (try (with_reducible rfl)))
    try simp only [Act.put, List.setIfInBounds_toArray, List.set_cons_zero, List.set_cons_succ]
    refine AnyB.takeQ (i := 11) (oi := _) (v := ?_) (by simp only [List.getElem?_toArray, List.getElem?_cons_zero, List.getElem?_cons_succ]; rfl) (by kernel_rfl) (by kernel_rfl) (by kernel_rfl) (by intro _ _ _ h; exact h) (Or.inl ⟨by rfl, ?_⟩) ?_
    rotate_left
    · (intro w hSw; (try dsimp only at hSw); go_simp; (try (with_reducible rfl)))
    try simp only [Act.put, List.setIfInBounds_toArray, List.set_cons_zero, List.set_cons_succ]
    refine AnyB.each (rs := [4]) (by kernel_rfl) (by simp) ?_
    refine EachB.cons rfl (fun K hK hB => ?_) ?_
    · skip
      (go_simp; go_at_call 65; refine (cur_pick_any b (N + 6) nL zs cv _ C4.out (by omega) (by omega) HR.out).mono ?_; rintro e w5 ⟨x5, rfl, hx5, _, hc5, hg5⟩; have hx5 := hx5 hL1; have C5 := Lib.hid hc5; have G5 := Lib.hid (grown_trans0 G4.out hg5); obtain ⟨g, off, rfl, y, cy⟩ := code_cell RL.out HLn.out hx5 hg5 OF.out; have i5 : (x5 : Int) < (nL : Int) := (by omega); clear hc5 hg5; dsimp only)
      refine hK.out _ _ ?_ (fun hHeld1 => ?_)
      · ((try dsimp only); (try trivial))
      clear hB hK K hHeld0
      refine AnyB.takeQ (i := 5) (oi := _) (v := ?_) (by simp only [List.getElem?_toArray, List.getElem?_cons_zero, List.getElem?_cons_succ]; rfl) (by kernel_rfl) (by kernel_rfl) (by kernel_rfl) (by intro _ _ _ h; exact h) (Or.inl ⟨by rfl, ?_⟩) ?_
      rotate_left
      · (intro w hSw; (try dsimp only at hSw); go_simp; (try (with_reducible rfl)))
      try simp only [Act.put, List.setIfInBounds_toArray, List.set_cons_zero, List.set_cons_succ]
      refine AnyB.each (rs := [6, 12]) (by kernel_rfl) (by simp) ?_
      refine EachB.cons rfl (fun K hK hB => ?_) ?_
      · skip
        (go_simp)
        refine hK.out _ _ ?_ (fun hHeld2 => ?_)
        · ((try dsimp only); (try trivial))
        clear hB hK K hHeld1
        refine AnyB.each (rs := [12]) (by kernel_rfl) (by simp) ?_
        refine EachB.cons rfl (fun K hK hB => ?_) ?_
        · skip
          (go_simp; go_at_call 65; refine (cur_pick_any b (N + 8) 7 zs cv _ C5.out (by omega) (by omega) HR.out).mono ?_; rintro e w6 ⟨x6, rfl, hx6, hy6, hc6, hg6⟩; replace cy := code_keep cy hg6 OF.out; have C6 := Lib.hid hc6; have G6 := Lib.hid (grown_trans0 G5.out hg6); clear hc6 hg6; dsimp only)
          refine hK.out _ _ ?_ (fun hHeld3 => ?_)
          · ((try dsimp only); (try trivial))
          clear hB hK K hHeld2
          refine AnyB.takeQ (i := 13) (oi := _) (v := ?_) (by simp only [List.getElem?_toArray, List.getElem?_cons_zero, List.getElem?_cons_succ]; rfl) (by kernel_rfl) (by kernel_rfl) (by kernel_rfl) (by intro _ _ _ h; exact h) (Or.inl ⟨by rfl, ?_⟩) ?_
          rotate_left
          · (intro w hSw; (try dsimp only at hSw); go_simp; (try (with_reducible rfl)))
          try simp only [Act.put, List.setIfInBounds_toArray, List.set_cons_zero, List.set_cons_succ]
          refine AnyB.takeQ (i := 14) (oi := _) (v := ?_) (by simp only [List.getElem?_toArray, List.getElem?_cons_zero, List.getElem?_cons_succ]; rfl) (by kernel_rfl) (by kernel_rfl) (by kernel_rfl) (by intro _ _ _ h; exact h) (Or.inl ⟨by rfl, ?_⟩) ?_
          rotate_left
          · (intro w hSw; (try dsimp only at hSw); go_simp; (try (with_reducible rfl)))
          try simp only [Act.put, List.setIfInBounds_toArray, List.set_cons_zero, List.set_cons_succ]
          refine AnyB.takeQ (i := 15) (oi := _) (v := ?_) (by simp only [List.getElem?_toArray, List.getElem?_cons_zero, List.getElem?_cons_succ]; rfl) (by kernel_rfl) (by kernel_rfl) (by kernel_rfl) (by intro _ _ _ h; exact h) (Or.inl ⟨by rfl, ?_⟩) ?_
          rotate_left
          · (intro w hSw; (try dsimp only at hSw); go_simp; (try (with_reducible rfl)))
          try simp only [Act.put, List.setIfInBounds_toArray, List.set_cons_zero, List.set_cons_succ]
          refine AnyB.takeQ (i := 16) (oi := _) (v := ?_) (by simp only [List.getElem?_toArray, List.getElem?_cons_zero, List.getElem?_cons_succ]; rfl) (by kernel_rfl) (by kernel_rfl) (by kernel_rfl) (by intro _ _ _ h; exact h) (Or.inl ⟨by rfl, ?_⟩) ?_
          rotate_left
          · (intro w hSw; (try dsimp only at hSw); go_simp; (try (with_reducible rfl)))
          try simp only [Act.put, List.setIfInBounds_toArray, List.set_cons_zero, List.set_cons_succ]
          refine AnyB.none (by kernel_rfl) ?_ _
          go_wp2_with fail
          go_ret
          exact ⟨_, rfl, C6.out.le (by omega), G6.out⟩
        exact EachB.nil
      refine EachB.cons rfl (fun K hK hB => ?_) ?_
      · skip
        (go_simp; go_at_call 65; refine (cur_pick_any b (N + 8) 7 zs cv _ C5.out (by omega) (by omega) HR.out).mono ?_; rintro e w6 ⟨x6, rfl, hx6, hy6, hc6, hg6⟩; replace cy := code_keep cy hg6 OF.out; have C6 := Lib.hid hc6; have G6 := Lib.hid (grown_trans0 G5.out hg6); clear hc6 hg6; dsimp only)
        refine hK.out _ _ ?_ (fun hHeld4 => ?_)
        · ((try dsimp only); (try trivial))
        clear hB hK K hHeld1
        refine AnyB.takeQ (i := 13) (oi := _) (v := ?_) (by simp only [List.getElem?_toArray, List.getElem?_cons_zero, List.getElem?_cons_succ]; rfl) (by kernel_rfl) (by kernel_rfl) (by kernel_rfl) (by intro _ _ _ h; exact h) (Or.inl ⟨by rfl, ?_⟩) ?_
        rotate_left
        · (intro w hSw; (try dsimp only at hSw); go_simp; (try (with_reducible rfl)))
        try simp only [Act.put, List.setIfInBounds_toArray, List.set_cons_zero, List.set_cons_succ]
        refine AnyB.takeQ (i := 14) (oi := _) (v := ?_) (by simp only [List.getElem?_toArray, List.getElem?_cons_zero, List.getElem?_cons_succ]; rfl) (by kernel_rfl) (by kernel_rfl) (by kernel_rfl) (by intro _ _ _ h; exact h) (Or.inl ⟨by rfl, ?_⟩) ?_
        rotate_left
        · (intro w hSw; (try dsimp only at hSw); go_simp; (try (with_reducible rfl)))
        try simp only [Act.put, List.setIfInBounds_toArray, List.set_cons_zero, List.set_cons_succ]
        refine AnyB.each (rs := [6]) (by kernel_rfl) (by simp) ?_
        refine EachB.cons rfl (fun K hK hB => ?_) ?_
        · skip
          (go_simp)
          refine hK.out _ _ ?_ (fun hHeld5 => ?_)
          · ((try dsimp only); (try trivial))
          clear hB hK K hHeld4
          refine AnyB.takeQ (i := 15) (oi := _) (v := ?_) (by simp only [List.getElem?_toArray, List.getElem?_cons_zero, List.getElem?_cons_succ]; rfl) (by kernel_rfl) (by kernel_rfl) (by kernel_rfl) (by intro _ _ _ h; exact h) (Or.inl ⟨by rfl, ?_⟩) ?_
          rotate_left
          · (intro w hSw; (try dsimp only at hSw); go_simp; (try (with_reducible rfl)))
          try simp only [Act.put, List.setIfInBounds_toArray, List.set_cons_zero, List.set_cons_succ]
          refine AnyB.takeQ (i := 16) (oi := _) (v := ?_) (by simp only [List.getElem?_toArray, List.getElem?_cons_zero, List.getElem?_cons_succ]; rfl) (by kernel_rfl) (by kernel_rfl) (by kernel_rfl) (by intro _ _ _ h; exact h) (Or.inl ⟨by rfl, ?_⟩) ?_
          rotate_left
          · (intro w hSw; (try dsimp only at hSw); go_simp; (try (with_reducible rfl)))
          try simp only [Act.put, List.setIfInBounds_toArray, List.set_cons_zero, List.set_cons_succ]
          refine AnyB.none (by kernel_rfl) ?_ _
          go_wp2_with fail
          go_ret
          exact ⟨_, rfl, C6.out.le (by omega), G6.out⟩
        exact EachB.nil
      exact EachB.nil
    exact EachB.nil
  · go_wp2_with fail
    go_ret
    exact ⟨_, rfl, C3.out.le (by omega), G3.out⟩
set_option maxHeartbeats 8000000 in
theorem cur_oddWord_4 (b N : Nat) (zs : List Int) (cv : Value) (w : World) (h : Cur w b zs cv N) (hN : N + 10 ≤ 1000) (hr : ∀ z ∈ zs, 0 ≤ z ∧ z ≤ 255) :
    Calls Try.prog 52 #[.pointer (some ⟨b, 0, none⟩), .int .i64 4] w fun e w' => ∃ x : Int, e = .returned (.int .i64 x) ∧ Cur w' b zs cv (N + 10) ∧ w.grownBy w' (some b) := by
  have H := Lib.hid h
  have HR := Lib.hid hr
  clear h hr
  obtain ⟨nL, hnL⟩ : ∃ k, k = (codesS 4).length := ⟨_, rfl⟩
  have hL1 : 1 ≤ nL := by rw [hnL]; exact codes_pos (by decide) (by decide)
  have hL2 : nL ≤ 64 := by rw [hnL]; exact (code_ok (n := 4) (by decide) (by decide)).few
  have HLn := Lib.hid hnL
  clear hnL
  go_enter Try.func52, Try.ntmps52
  go_wp2_with fail
  refine (cur_pick_any b N 65536 zs cv _ H.out (by omega) (by omega) HR.out).mono ?_; rintro e w1 ⟨x1, rfl, _, hx1, hc1, hg1⟩
  have C1 := Lib.hid hc1
  have G1 := Lib.hid hg1
  clear hc1 hg1
  go_wp2_with fail
  refine (cur_pick_any b (N + 2) 32768 zs cv _ C1.out (by omega) (by omega) HR.out).mono ?_; rintro e w2 ⟨x2, rfl, _, hx2, hc2, hg2⟩
  have C2 := Lib.hid hc2
  have G2 := Lib.hid (grown_trans0 G1.out hg2)
  clear hc2 hg2
  go_wp2_with fail
  refine (cur_pick_any b (N + 4) 3 zs cv _ C2.out (by omega) (by omega) HR.out).mono ?_; rintro e w3 ⟨x3, rfl, hx3, _, hc3, hg3⟩
  have C3 := Lib.hid hc3
  have G3 := Lib.hid (grown_trans0 G2.out hg3)
  clear hc3 hg3
  have h3 : x3 = 0 ∨ x3 = 1 ∨ x3 = 2 := by have := hx3 (by omega); omega
  clear hx3
  rcases h3 with rfl | rfl | rfl
  · go_wp2_with fail
    refine (spec_l15Codes_any 4 _ (by decide) (by decide)).mono ?_; rintro e w4 ⟨v4, rfl, ho4, hb4⟩
    obtain ⟨a4, c4, rfl⟩ : ∃ a c, v4 = .slice a nL c := (by have h9 := ho4.forms; rw [ints_len, ← HLn.out] at h9; exact h9)
    have C4 := Lib.hid (C3.out.call hb4)
    have G4 := Lib.hid (grown_below0 G3.out hb4)
    have RL := Lib.hid (OwnI.rd ho4)
    have OF := Lib.hid (own_above ho4 (Cur.lt C3.out))
    clear ho4 hb4
    go_wp2_with fail
    refine (cur_pick_any b (N + 6) nL zs cv _ C4.out (by omega) (by omega) HR.out).mono ?_; rintro e w5 ⟨x5, rfl, hx5, _, hc5, hg5⟩
    have hx5 := hx5 hL1
    have C5 := Lib.hid hc5
    have G5 := Lib.hid (grown_trans0 G4.out hg5)
    obtain ⟨g, off, rfl, y, cy⟩ := code_cell RL.out HLn.out hx5 hg5 OF.out
    have i5 : (x5 : Int) < (nL : Int) := by omega
    clear hc5 hg5
    go_wp2_with fail
    go_ret
    exact ⟨_, rfl, C5.out.le (by omega), G5.out⟩
  · go_wp2_with fail
    refine (spec_l15Codes_any 4 _ (by decide) (by decide)).mono ?_; rintro e w4 ⟨v4, rfl, ho4, hb4⟩
    obtain ⟨a4, c4, rfl⟩ : ∃ a c, v4 = .slice a nL c := (by have h9 := ho4.forms; rw [ints_len, ← HLn.out] at h9; exact h9)
    have C4 := Lib.hid (C3.out.call hb4)
    have G4 := Lib.hid (grown_below0 G3.out hb4)
    have RL := Lib.hid (OwnI.rd ho4)
    have OF := Lib.hid (own_above ho4 (Cur.lt C3.out))
    clear ho4 hb4
    go_wp2_with fail
    replace C4 := Lib.hid (C4.out.call (show Below w4.heap.size w4 w4.drew from (by repeat (first | exact Below.refl _ _ | assumption | refine Below.drew ?_ | refine below_drewN ?_ _ | refine Below.alloc ?_ (by first | omega | (simp <;> omega)) _ | refine Below.setCell ?_ (by first | omega | (simp <;> omega)) _ | refine Below.trans ?_ (Below.mono (by assumption) (by first | omega | (simp <;> omega)))))))
    replace G4 := Lib.hid (grown_trans0 G4.out (drew_grown _ _))
    replace RL := Lib.hid (Rd.below RL.out (show Below w4.heap.size w4 w4.drew from (by repeat (first | exact Below.refl _ _ | assumption | refine Below.drew ?_ | refine below_drewN ?_ _ | refine Below.alloc ?_ (by first | omega | (simp <;> omega)) _ | refine Below.setCell ?_ (by first | omega | (simp <;> omega)) _ | refine Below.trans ?_ (Below.mono (by assumption) (by first | omega | (simp <;> omega)))))) rfl)
    refine AnyB.begin (S := (fun w' => True)) [] (by kernel_rfl) ?_ (fun hHeld0 => ?_)
    · ((try dsimp only); (try trivial))
    refine AnyB.takeQ (i := 0) (oi := _) (v := ?_) (by simp only [List.getElem?_toArray, List.getElem?_cons_zero, List.getElem?_cons_succ]; rfl) (by kernel_rfl) (by kernel_rfl) (by kernel_rfl) (by intro _ _ _ h; exact h) (Or.inl ⟨by rfl, ?_⟩) ?_
    rotate_left
    · (intro w hSw; (try dsimp only at hSw); go_simp; (try (with_reducible rfl)))
    try simp only [Act.put, List.setIfInBounds_toArray, List.set_cons_zero, List.set_cons_succ]
    refine AnyB.takeQ (i := 1) (oi := _) (v := ?_) (by simp only [List.getElem?_toArray, List.getElem?_cons_zero, List.getElem?_cons_succ]; rfl) (by kernel_rfl) (by kernel_rfl) (by kernel_rfl) (by intro _ _ _ h; exact h) (Or.inl ⟨by rfl, ?_⟩) ?_
    rotate_left
    · (intro w hSw; (try dsimp only at hSw); go_simp; (try (with_reducible rfl)))
    try simp only [Act.put, List.setIfInBounds_toArray, List.set_cons_zero, List.set_cons_succ]
    refine AnyB.takeQ (i := 2) (oi := _) (v := ?_) (by simp only [List.getElem?_toArray, List.getElem?_cons_zero, List.getElem?_cons_succ]; rfl) (by kernel_rfl) (by kernel_rfl) (by kernel_rfl) (by intro _ _ _ h; exact h) (Or.inl ⟨by rfl, ?_⟩) ?_
    rotate_left
    · (intro w hSw; (try dsimp only at hSw); go_simp; (try (with_reducible rfl)))
    try simp only [Act.put, List.setIfInBounds_toArray, List.set_cons_zero, List.set_cons_succ]
    refine AnyB.takeQ (i := 3) (oi := _) (v := ?_) (by simp only [List.getElem?_toArray, List.getElem?_cons_zero, List.getElem?_cons_succ]; rfl) (by kernel_rfl) (by kernel_rfl) (by kernel_rfl) (by intro _ _ _ h; exact h) (Or.inl ⟨by rfl, ?_⟩) ?_
    rotate_left
    · (intro w hSw; (try dsimp only at hSw); go_simp; (try (with_reducible rfl)))
    try simp only [Act.put, List.setIfInBounds_toArray, List.set_cons_zero, List.set_cons_succ]
    refine AnyB.takeQ (i := 7) (oi := _) (v := ?_) (by simp only [List.getElem?_toArray, List.getElem?_cons_zero, List.getElem?_cons_succ]; rfl) (by kernel_rfl) (by kernel_rfl) (by kernel_rfl) (by intro _ _ _ h; exact h) (Or.inl ⟨by rfl, ?_⟩) ?_
    rotate_left
    · (intro w hSw; (try dsimp only at hSw); go_simp; (try (with_reducible rfl)))
    try simp only [Act.put, List.setIfInBounds_toArray, List.set_cons_zero, List.set_cons_succ]
    refine AnyB.takeQ (i := 8) (oi := _) (v := ?_) (by simp only [List.getElem?_toArray, List.getElem?_cons_zero, List.getElem?_cons_succ]; rfl) (by kernel_rfl) (by kernel_rfl) (by kernel_rfl) (by intro _ _ _ h; exact h) (Or.inl ⟨by rfl, ?_⟩) ?_
    rotate_left
    · (intro w hSw; (try dsimp only at hSw); go_simp; (try (with_reducible rfl)))
    try simp only [Act.put, List.setIfInBounds_toArray, List.set_cons_zero, List.set_cons_succ]
    refine AnyB.takeQ (i := 9) (oi := _) (v := ?_) (by simp only [List.getElem?_toArray, List.getElem?_cons_zero, List.getElem?_cons_succ]; rfl) (by kernel_rfl) (by kernel_rfl) (by kernel_rfl) (by intro _ _ _ h; exact h) (Or.inl ⟨by rfl, ?_⟩) ?_
    rotate_left
    · (intro w hSw; (try dsimp only at hSw); go_simp; (try (with_reducible rfl)))
    try simp only [Act.put, List.setIfInBounds_toArray, List.set_cons_zero, List.set_cons_succ]
    refine AnyB.takeQ (i := 10) (oi := _) (v := ?_) (by simp only [List.getElem?_toArray, List.getElem?_cons_zero, List.getElem?_cons_succ]; rfl) (by kernel_rfl) (by kernel_rfl) (by kernel_rfl) (by intro _ _ _ h; exact h) (Or.inl ⟨by rfl, ?_⟩) ?_
    rotate_left
    · (intro w hSw; (try dsimp only at hSw); go_simp; (try (with_reducible rfl)))
    try simp only [Act.put, List.setIfInBounds_toArray, List.set_cons_zero, List.set_cons_succ]
    refine AnyB.takeQ (i := 11) (oi := _) (v := ?_) (by simp only [List.getElem?_toArray, List.getElem?_cons_zero, List.getElem?_cons_succ]; rfl) (by kernel_rfl) (by kernel_rfl) (by kernel_rfl) (by intro _ _ _ h; exact h) (Or.inl ⟨by rfl, ?_⟩) ?_
    rotate_left
    · (intro w hSw; (try dsimp only at hSw); go_simp; (try (with_reducible rfl)))
    try simp only [Act.put, List.setIfInBounds_toArray, List.set_cons_zero, List.set_cons_succ]
    refine AnyB.each (rs := [4]) (by kernel_rfl) (by simp) ?_
    refine EachB.cons rfl (fun K hK hB => ?_) ?_
    · skip
      (go_simp; go_at_call 65; refine (cur_pick_any b (N + 6) nL zs cv _ C4.out (by omega) (by omega) HR.out).mono ?_; rintro e w5 ⟨x5, rfl, hx5, _, hc5, hg5⟩; have hx5 := hx5 hL1; have C5 := Lib.hid hc5; have G5 := Lib.hid (grown_trans0 G4.out hg5); obtain ⟨g, off, rfl, y, cy⟩ := code_cell RL.out HLn.out hx5 hg5 OF.out; have i5 : (x5 : Int) < (nL : Int) := (by omega); clear hc5 hg5; dsimp only)
      refine hK.out _ _ ?_ (fun hHeld1 => ?_)
      · ((try dsimp only); (try trivial))
      clear hB hK K hHeld0
      refine AnyB.takeQ (i := 5) (oi := _) (v := ?_) (by simp only [List.getElem?_toArray, List.getElem?_cons_zero, List.getElem?_cons_succ]; rfl) (by kernel_rfl) (by kernel_rfl) (by kernel_rfl) (by intro _ _ _ h; exact h) (Or.inl ⟨by rfl, ?_⟩) ?_
      rotate_left
      · (intro w hSw; (try dsimp only at hSw); go_simp; (try (with_reducible rfl)))
      try simp only [Act.put, List.setIfInBounds_toArray, List.set_cons_zero, List.set_cons_succ]
      refine AnyB.each (rs := [6, 12]) (by kernel_rfl) (by simp) ?_
      refine EachB.cons rfl (fun K hK hB => ?_) ?_
      · skip
        (go_simp)
        refine hK.out _ _ ?_ (fun hHeld2 => ?_)
        · ((try dsimp only); (try trivial))
        clear hB hK K hHeld1
        refine AnyB.each (rs := [12]) (by kernel_rfl) (by simp) ?_
        refine EachB.cons rfl (fun K hK hB => ?_) ?_
        · skip
          (go_simp; go_at_call 65; refine (cur_pick_any b (N + 8) 15 zs cv _ C5.out (by omega) (by omega) HR.out).mono ?_; rintro e w6 ⟨x6, rfl, hx6, hy6, hc6, hg6⟩; replace cy := code_keep cy hg6 OF.out; have C6 := Lib.hid hc6; have G6 := Lib.hid (grown_trans0 G5.out hg6); clear hc6 hg6; dsimp only)
          refine hK.out _ _ ?_ (fun hHeld3 => ?_)
          · ((try dsimp only); (try trivial))
          clear hB hK K hHeld2
          refine AnyB.takeQ (i := 13) (oi := _) (v := ?_) (by simp only [List.getElem?_toArray, List.getElem?_cons_zero, List.getElem?_cons_succ]; rfl) (by kernel_rfl) (by kernel_rfl) (by kernel_rfl) (by intro _ _ _ h; exact h) (Or.inl ⟨by rfl, ?_⟩) ?_
          rotate_left
          · (intro w hSw; (try dsimp only at hSw); go_simp; (try (with_reducible rfl)))
          try simp only [Act.put, List.setIfInBounds_toArray, List.set_cons_zero, List.set_cons_succ]
          refine AnyB.takeQ (i := 14) (oi := _) (v := ?_) (by simp only [List.getElem?_toArray, List.getElem?_cons_zero, List.getElem?_cons_succ]; rfl) (by kernel_rfl) (by kernel_rfl) (by kernel_rfl) (by intro _ _ _ h; exact h) (Or.inl ⟨by rfl, ?_⟩) ?_
          rotate_left
          · (intro w hSw; (try dsimp only at hSw); go_simp; (try (with_reducible rfl)))
          try simp only [Act.put, List.setIfInBounds_toArray, List.set_cons_zero, List.set_cons_succ]
          refine AnyB.takeQ (i := 15) (oi := _) (v := ?_) (by simp only [List.getElem?_toArray, List.getElem?_cons_zero, List.getElem?_cons_succ]; rfl) (by kernel_rfl) (by kernel_rfl) (by kernel_rfl) (by intro _ _ _ h; exact h) (Or.inl ⟨by rfl, ?_⟩) ?_
          rotate_left
          · (intro w hSw; (try dsimp only at hSw); go_simp; (try (with_reducible rfl)))
          try simp only [Act.put, List.setIfInBounds_toArray, List.set_cons_zero, List.set_cons_succ]
          refine AnyB.takeQ (i := 16) (oi := _) (v := ?_) (by simp only [List.getElem?_toArray, List.getElem?_cons_zero, List.getElem?_cons_succ]; rfl) (by kernel_rfl) (by kernel_rfl) (by kernel_rfl) (by intro _ _ _ h; exact h) (Or.inl ⟨by rfl, ?_⟩) ?_
          rotate_left
          · (intro w hSw; (try dsimp only at hSw); go_simp; (try (with_reducible rfl)))
          try simp only [Act.put, List.setIfInBounds_toArray, List.set_cons_zero, List.set_cons_succ]
          refine AnyB.none (by kernel_rfl) ?_ _
          go_wp2_with fail
          go_ret
          exact ⟨_, rfl, C6.out.le (by omega), G6.out⟩
        exact EachB.nil
      refine EachB.cons rfl (fun K hK hB => ?_) ?_
      · skip
        (go_simp; go_at_call 65; refine (cur_pick_any b (N + 8) 15 zs cv _ C5.out (by omega) (by omega) HR.out).mono ?_; rintro e w6 ⟨x6, rfl, hx6, hy6, hc6, hg6⟩; replace cy := code_keep cy hg6 OF.out; have C6 := Lib.hid hc6; have G6 := Lib.hid (grown_trans0 G5.out hg6); clear hc6 hg6; dsimp only)
        refine hK.out _ _ ?_ (fun hHeld4 => ?_)
        · ((try dsimp only); (try trivial))
        clear hB hK K hHeld1
        refine AnyB.takeQ (i := 13) (oi := _) (v := ?_) (by simp only [List.getElem?_toArray, List.getElem?_cons_zero, List.getElem?_cons_succ]; rfl) (by kernel_rfl) (by kernel_rfl) (by kernel_rfl) (by intro _ _ _ h; exact h) (Or.inl ⟨by rfl, ?_⟩) ?_
        rotate_left
        · (intro w hSw; (try dsimp only at hSw); go_simp; (try (with_reducible rfl)))
        try simp only [Act.put, List.setIfInBounds_toArray, List.set_cons_zero, List.set_cons_succ]
        refine AnyB.takeQ (i := 14) (oi := _) (v := ?_) (by simp only [List.getElem?_toArray, List.getElem?_cons_zero, List.getElem?_cons_succ]; rfl) (by kernel_rfl) (by kernel_rfl) (by kernel_rfl) (by intro _ _ _ h; exact h) (Or.inl ⟨by rfl, ?_⟩) ?_
        rotate_left
        · (intro w hSw; (try dsimp only at hSw); go_simp; (try (with_reducible rfl)))
        try simp only [Act.put, List.setIfInBounds_toArray, List.set_cons_zero, List.set_cons_succ]
        refine AnyB.each (rs := [6]) (by kernel_rfl) (by simp) ?_
        refine EachB.cons rfl (fun K hK hB => ?_) ?_
        · skip
          (go_simp)
          refine hK.out _ _ ?_ (fun hHeld5 => ?_)
          · ((try dsimp only); (try trivial))
          clear hB hK K hHeld4
          refine AnyB.takeQ (i := 15) (oi := _) (v := ?_) (by simp only [List.getElem?_toArray, List.getElem?_cons_zero, List.getElem?_cons_succ]; rfl) (by kernel_rfl) (by kernel_rfl) (by kernel_rfl) (by intro _ _ _ h; exact h) (Or.inl ⟨by rfl, ?_⟩) ?_
          rotate_left
          · (intro w hSw; (try dsimp only at hSw); go_simp; (try (with_reducible rfl)))
          try simp only [Act.put, List.setIfInBounds_toArray, List.set_cons_zero, List.set_cons_succ]
          refine AnyB.takeQ (i := 16) (oi := _) (v := ?_) (by simp only [List.getElem?_toArray, List.getElem?_cons_zero, List.getElem?_cons_succ]; rfl) (by kernel_rfl) (by kernel_rfl) (by kernel_rfl) (by intro _ _ _ h; exact h) (Or.inl ⟨by rfl, ?_⟩) ?_
          rotate_left
          · (intro w hSw; (try dsimp only at hSw); go_simp; (try (with_reducible rfl)))
          try simp only [Act.put, List.setIfInBounds_toArray, List.set_cons_zero, List.set_cons_succ]
          refine AnyB.none (by kernel_rfl) ?_ _
          go_wp2_with fail
          go_ret
          exact ⟨_, rfl, C6.out.le (by omega), G6.out⟩
        exact EachB.nil
      exact EachB.nil
    exact EachB.nil
  · go_wp2_with fail
    go_ret
    exact ⟨_, rfl, C3.out.le (by omega), G3.out⟩
set_option maxHeartbeats 8000000 in
theorem cur_oddWord_5 (b N : Nat) (zs : List Int) (cv : Value) (w : World) (h : Cur w b zs cv N) (hN : N + 10 ≤ 1000) (hr : ∀ z ∈ zs, 0 ≤ z ∧ z ≤ 255) :
    Calls Try.prog 52 #[.pointer (some ⟨b, 0, none⟩), .int .i64 5] w fun e w' => ∃ x : Int, e = .returned (.int .i64 x) ∧ Cur w' b zs cv (N + 10) ∧ w.grownBy w' (some b) := by
  have H := Lib.hid h
  have HR := Lib.hid hr
  clear h hr
  obtain ⟨nL, hnL⟩ : ∃ k, k = (codesS 5).length := ⟨_, rfl⟩
  have hL1 : 1 ≤ nL := by rw [hnL]; exact codes_pos (by decide) (by decide)
  have hL2 : nL ≤ 64 := by rw [hnL]; exact (code_ok (n := 5) (by decide) (by decide)).few
  have HLn := Lib.hid hnL
  clear hnL
  go_enter Try.func52, Try.ntmps52
  go_wp2_with fail
  refine (cur_pick_any b N 65536 zs cv _ H.out (by omega) (by omega) HR.out).mono ?_; rintro e w1 ⟨x1, rfl, _, hx1, hc1, hg1⟩
  have C1 := Lib.hid hc1
  have G1 := Lib.hid hg1
  clear hc1 hg1
  go_wp2_with fail
  refine (cur_pick_any b (N + 2) 32768 zs cv _ C1.out (by omega) (by omega) HR.out).mono ?_; rintro e w2 ⟨x2, rfl, _, hx2, hc2, hg2⟩
  have C2 := Lib.hid hc2
  have G2 := Lib.hid (grown_trans0 G1.out hg2)
  clear hc2 hg2
  go_wp2_with fail
  refine (cur_pick_any b (N + 4) 3 zs cv _ C2.out (by omega) (by omega) HR.out).mono ?_; rintro e w3 ⟨x3, rfl, hx3, _, hc3, hg3⟩
  have C3 := Lib.hid hc3
  have G3 := Lib.hid (grown_trans0 G2.out hg3)
  clear hc3 hg3
  have h3 : x3 = 0 ∨ x3 = 1 ∨ x3 = 2 := by have := hx3 (by omega); omega
  clear hx3
  rcases h3 with rfl | rfl | rfl
  · go_wp2_with fail
    refine (spec_l15Codes_any 5 _ (by decide) (by decide)).mono ?_; rintro e w4 ⟨v4, rfl, ho4, hb4⟩
    obtain ⟨a4, c4, rfl⟩ : ∃ a c, v4 = .slice a nL c := (by have h9 := ho4.forms; rw [ints_len, ← HLn.out] at h9; exact h9)
    have C4 := Lib.hid (C3.out.call hb4)
    have G4 := Lib.hid (grown_below0 G3.out hb4)
    have RL := Lib.hid (OwnI.rd ho4)
    have OF := Lib.hid (own_above ho4 (Cur.lt C3.out))
    clear ho4 hb4
    go_wp2_with fail
    refine (cur_pick_any b (N + 6) nL zs cv _ C4.out (by omega) (by omega) HR.out).mono ?_; rintro e w5 ⟨x5, rfl, hx5, _, hc5, hg5⟩
    have hx5 := hx5 hL1
    have C5 := Lib.hid hc5
    have G5 := Lib.hid (grown_trans0 G4.out hg5)
    obtain ⟨g, off, rfl, y, cy⟩ := code_cell RL.out HLn.out hx5 hg5 OF.out
    have i5 : (x5 : Int) < (nL : Int) := by omega
    clear hc5 hg5
    go_wp2_with fail
    go_ret
    exact ⟨_, rfl, C5.out.le (by omega), G5.out⟩
  · go_wp2_with fail
    refine (spec_l15Codes_any 5 _ (by decide) (by decide)).mono ?_; rintro e w4 ⟨v4, rfl, ho4, hb4⟩
    obtain ⟨a4, c4, rfl⟩ : ∃ a c, v4 = .slice a nL c := (by have h9 := ho4.forms; rw [ints_len, ← HLn.out] at h9; exact h9)
    have C4 := Lib.hid (C3.out.call hb4)
    have G4 := Lib.hid (grown_below0 G3.out hb4)
    have RL := Lib.hid (OwnI.rd ho4)
    have OF := Lib.hid (own_above ho4 (Cur.lt C3.out))
    clear ho4 hb4
    go_wp2_with fail
    replace C4 := Lib.hid (C4.out.call (show Below w4.heap.size w4 w4.drew from (by repeat (first | exact Below.refl _ _ | assumption | refine Below.drew ?_ | refine below_drewN ?_ _ | refine Below.alloc ?_ (by first | omega | (simp <;> omega)) _ | refine Below.setCell ?_ (by first | omega | (simp <;> omega)) _ | refine Below.trans ?_ (Below.mono (by assumption) (by first | omega | (simp <;> omega)))))))
    replace G4 := Lib.hid (grown_trans0 G4.out (drew_grown _ _))
    replace RL := Lib.hid (Rd.below RL.out (show Below w4.heap.size w4 w4.drew from (by repeat (first | exact Below.refl _ _ | assumption | refine Below.drew ?_ | refine below_drewN ?_ _ | refine Below.alloc ?_ (by first | omega | (simp <;> omega)) _ | refine Below.setCell ?_ (by first | omega | (simp <;> omega)) _ | refine Below.trans ?_ (Below.mono (by assumption) (by first | omega | (simp <;> omega)))))) rfl)
    refine AnyB.begin (S := (fun w' => True)) [] (by kernel_rfl) ?_ (fun hHeld0 => ?_)
    · ((try dsimp only); (try trivial))
    refine AnyB.takeQ (i := 0) (oi := _) (v := ?_) (by simp only [List.getElem?_toArray, List.getElem?_cons_zero, List.getElem?_cons_succ]; rfl) (by kernel_rfl) (by kernel_rfl) (by kernel_rfl) (by intro _ _ _ h; exact h) (Or.inl ⟨by rfl, ?_⟩) ?_
    rotate_left
    · (intro w hSw; (try dsimp only at hSw); go_simp; (try (with_reducible rfl)))
    try simp only [Act.put, List.setIfInBounds_toArray, List.set_cons_zero, List.set_cons_succ]
    refine AnyB.takeQ (i := 1) (oi := _) (v := ?_) (by simp only [List.getElem?_toArray, List.getElem?_cons_zero, List.getElem?_cons_succ]; rfl) (by kernel_rfl) (by kernel_rfl) (by kernel_rfl) (by intro _ _ _ h; exact h) (Or.inl ⟨by rfl, ?_⟩) ?_
    rotate_left
    · (intro w hSw; (try dsimp only at hSw); go_simp; (try (with_reducible rfl)))
    try simp only [Act.put, List.setIfInBounds_toArray, List.set_cons_zero, List.set_cons_succ]
    refine AnyB.takeQ (i := 2) (oi := _) (v := ?_) (by simp only [List.getElem?_toArray, List.getElem?_cons_zero, List.getElem?_cons_succ]; rfl) (by kernel_rfl) (by kernel_rfl) (by kernel_rfl) (by intro _ _ _ h; exact h) (Or.inl ⟨by rfl, ?_⟩) ?_
    rotate_left
    · (intro w hSw; (try dsimp only at hSw); go_simp; (try (with_reducible rfl)))
    try simp only [Act.put, List.setIfInBounds_toArray, List.set_cons_zero, List.set_cons_succ]
    refine AnyB.takeQ (i := 3) (oi := _) (v := ?_) (by simp only [List.getElem?_toArray, List.getElem?_cons_zero, List.getElem?_cons_succ]; rfl) (by kernel_rfl) (by kernel_rfl) (by kernel_rfl) (by intro _ _ _ h; exact h) (Or.inl ⟨by rfl, ?_⟩) ?_
    rotate_left
    · (intro w hSw; (try dsimp only at hSw); go_simp; (try (with_reducible rfl)))
    try simp only [Act.put, List.setIfInBounds_toArray, List.set_cons_zero, List.set_cons_succ]
    refine AnyB.takeQ (i := 7) (oi := _) (v := ?_) (by simp only [List.getElem?_toArray, List.getElem?_cons_zero, List.getElem?_cons_succ]; rfl) (by kernel_rfl) (by kernel_rfl) (by kernel_rfl) (by intro _ _ _ h; exact h) (Or.inl ⟨by rfl, ?_⟩) ?_
    rotate_left
    · (intro w hSw; (try dsimp only at hSw); go_simp; (try (with_reducible rfl)))
    try simp only [Act.put, List.setIfInBounds_toArray, List.set_cons_zero, List.set_cons_succ]
    refine AnyB.takeQ (i := 8) (oi := _) (v := ?_) (by simp only [List.getElem?_toArray, List.getElem?_cons_zero, List.getElem?_cons_succ]; rfl) (by kernel_rfl) (by kernel_rfl) (by kernel_rfl) (by intro _ _ _ h; exact h) (Or.inl ⟨by rfl, ?_⟩) ?_
    rotate_left
    · (intro w hSw; (try dsimp only at hSw); go_simp; (try (with_reducible rfl)))
    try simp only [Act.put, List.setIfInBounds_toArray, List.set_cons_zero, List.set_cons_succ]
    refine AnyB.takeQ (i := 9) (oi := _) (v := ?_) (by simp only [List.getElem?_toArray, List.getElem?_cons_zero, List.getElem?_cons_succ]; rfl) (by kernel_rfl) (by kernel_rfl) (by kernel_rfl) (by intro _ _ _ h; exact h) (Or.inl ⟨by rfl, ?_⟩) ?_
    rotate_left
    · (intro w hSw; (try dsimp only at hSw); go_simp; (try (with_reducible rfl)))
    try simp only [Act.put, List.setIfInBounds_toArray, List.set_cons_zero, List.set_cons_succ]
    refine AnyB.takeQ (i := 10) (oi := _) (v := ?_) (by simp only [List.getElem?_toArray, List.getElem?_cons_zero, List.getElem?_cons_succ]; rfl) (by kernel_rfl) (by kernel_rfl) (by kernel_rfl) (by intro _ _ _ h; exact h) (Or.inl ⟨by rfl, ?_⟩) ?_
    rotate_left
    · (intro w hSw; (try dsimp only at hSw); go_simp; (try (with_reducible rfl)))
    try simp only [Act.put, List.setIfInBounds_toArray, List.set_cons_zero, List.set_cons_succ]
    refine AnyB.takeQ (i := 11) (oi := _) (v := ?_) (by simp only [List.getElem?_toArray, List.getElem?_cons_zero, List.getElem?_cons_succ]; rfl) (by kernel_rfl) (by kernel_rfl) (by kernel_rfl) (by intro _ _ _ h; exact h) (Or.inl ⟨by rfl, ?_⟩) ?_
    rotate_left
    · (intro w hSw; (try dsimp only at hSw); go_simp; (try (with_reducible rfl)))
    try simp only [Act.put, List.setIfInBounds_toArray, List.set_cons_zero, List.set_cons_succ]
    refine AnyB.each (rs := [4]) (by kernel_rfl) (by simp) ?_
    refine EachB.cons rfl (fun K hK hB => ?_) ?_
    · skip
      (go_simp; go_at_call 65; refine (cur_pick_any b (N + 6) nL zs cv _ C4.out (by omega) (by omega) HR.out).mono ?_; rintro e w5 ⟨x5, rfl, hx5, _, hc5, hg5⟩; have hx5 := hx5 hL1; have C5 := Lib.hid hc5; have G5 := Lib.hid (grown_trans0 G4.out hg5); obtain ⟨g, off, rfl, y, cy⟩ := code_cell RL.out HLn.out hx5 hg5 OF.out; have i5 : (x5 : Int) < (nL : Int) := (by omega); clear hc5 hg5; dsimp only)
      refine hK.out _ _ ?_ (fun hHeld1 => ?_)
      · ((try dsimp only); (try trivial))
      clear hB hK K hHeld0
      refine AnyB.takeQ (i := 5) (oi := _) (v := ?_) (by simp only [List.getElem?_toArray, List.getElem?_cons_zero, List.getElem?_cons_succ]; rfl) (by kernel_rfl) (by kernel_rfl) (by kernel_rfl) (by intro _ _ _ h; exact h) (Or.inl ⟨by rfl, ?_⟩) ?_
      rotate_left
      · (intro w hSw; (try dsimp only at hSw); go_simp; (try (with_reducible rfl)))
      try simp only [Act.put, List.setIfInBounds_toArray, List.set_cons_zero, List.set_cons_succ]
      refine AnyB.each (rs := [6, 12]) (by kernel_rfl) (by simp) ?_
      refine EachB.cons rfl (fun K hK hB => ?_) ?_
      · skip
        (go_simp)
        refine hK.out _ _ ?_ (fun hHeld2 => ?_)
        · ((try dsimp only); (try trivial))
        clear hB hK K hHeld1
        refine AnyB.each (rs := [12]) (by kernel_rfl) (by simp) ?_
        refine EachB.cons rfl (fun K hK hB => ?_) ?_
        · skip
          (go_simp; go_at_call 65; refine (cur_pick_any b (N + 8) 31 zs cv _ C5.out (by omega) (by omega) HR.out).mono ?_; rintro e w6 ⟨x6, rfl, hx6, hy6, hc6, hg6⟩; replace cy := code_keep cy hg6 OF.out; have C6 := Lib.hid hc6; have G6 := Lib.hid (grown_trans0 G5.out hg6); clear hc6 hg6; dsimp only)
          refine hK.out _ _ ?_ (fun hHeld3 => ?_)
          · ((try dsimp only); (try trivial))
          clear hB hK K hHeld2
          refine AnyB.takeQ (i := 13) (oi := _) (v := ?_) (by simp only [List.getElem?_toArray, List.getElem?_cons_zero, List.getElem?_cons_succ]; rfl) (by kernel_rfl) (by kernel_rfl) (by kernel_rfl) (by intro _ _ _ h; exact h) (Or.inl ⟨by rfl, ?_⟩) ?_
          rotate_left
          · (intro w hSw; (try dsimp only at hSw); go_simp; (try (with_reducible rfl)))
          try simp only [Act.put, List.setIfInBounds_toArray, List.set_cons_zero, List.set_cons_succ]
          refine AnyB.takeQ (i := 14) (oi := _) (v := ?_) (by simp only [List.getElem?_toArray, List.getElem?_cons_zero, List.getElem?_cons_succ]; rfl) (by kernel_rfl) (by kernel_rfl) (by kernel_rfl) (by intro _ _ _ h; exact h) (Or.inl ⟨by rfl, ?_⟩) ?_
          rotate_left
          · (intro w hSw; (try dsimp only at hSw); go_simp; (try (with_reducible rfl)))
          try simp only [Act.put, List.setIfInBounds_toArray, List.set_cons_zero, List.set_cons_succ]
          refine AnyB.takeQ (i := 15) (oi := _) (v := ?_) (by simp only [List.getElem?_toArray, List.getElem?_cons_zero, List.getElem?_cons_succ]; rfl) (by kernel_rfl) (by kernel_rfl) (by kernel_rfl) (by intro _ _ _ h; exact h) (Or.inl ⟨by rfl, ?_⟩) ?_
          rotate_left
          · (intro w hSw; (try dsimp only at hSw); go_simp; (try (with_reducible rfl)))
          try simp only [Act.put, List.setIfInBounds_toArray, List.set_cons_zero, List.set_cons_succ]
          refine AnyB.takeQ (i := 16) (oi := _) (v := ?_) (by simp only [List.getElem?_toArray, List.getElem?_cons_zero, List.getElem?_cons_succ]; rfl) (by kernel_rfl) (by kernel_rfl) (by kernel_rfl) (by intro _ _ _ h; exact h) (Or.inl ⟨by rfl, ?_⟩) ?_
          rotate_left
          · (intro w hSw; (try dsimp only at hSw); go_simp; (try (with_reducible rfl)))
          try simp only [Act.put, List.setIfInBounds_toArray, List.set_cons_zero, List.set_cons_succ]
          refine AnyB.none (by kernel_rfl) ?_ _
          go_wp2_with fail
          go_ret
          exact ⟨_, rfl, C6.out.le (by omega), G6.out⟩
        exact EachB.nil
      refine EachB.cons rfl (fun K hK hB => ?_) ?_
      · skip
        (go_simp; go_at_call 65; refine (cur_pick_any b (N + 8) 31 zs cv _ C5.out (by omega) (by omega) HR.out).mono ?_; rintro e w6 ⟨x6, rfl, hx6, hy6, hc6, hg6⟩; replace cy := code_keep cy hg6 OF.out; have C6 := Lib.hid hc6; have G6 := Lib.hid (grown_trans0 G5.out hg6); clear hc6 hg6; dsimp only)
        refine hK.out _ _ ?_ (fun hHeld4 => ?_)
        · ((try dsimp only); (try trivial))
        clear hB hK K hHeld1
        refine AnyB.takeQ (i := 13) (oi := _) (v := ?_) (by simp only [List.getElem?_toArray, List.getElem?_cons_zero, List.getElem?_cons_succ]; rfl) (by kernel_rfl) (by kernel_rfl) (by kernel_rfl) (by intro _ _ _ h; exact h) (Or.inl ⟨by rfl, ?_⟩) ?_
        rotate_left
        · (intro w hSw; (try dsimp only at hSw); go_simp; (try (with_reducible rfl)))
        try simp only [Act.put, List.setIfInBounds_toArray, List.set_cons_zero, List.set_cons_succ]
        refine AnyB.takeQ (i := 14) (oi := _) (v := ?_) (by simp only [List.getElem?_toArray, List.getElem?_cons_zero, List.getElem?_cons_succ]; rfl) (by kernel_rfl) (by kernel_rfl) (by kernel_rfl) (by intro _ _ _ h; exact h) (Or.inl ⟨by rfl, ?_⟩) ?_
        rotate_left
        · (intro w hSw; (try dsimp only at hSw); go_simp; (try (with_reducible rfl)))
        try simp only [Act.put, List.setIfInBounds_toArray, List.set_cons_zero, List.set_cons_succ]
        refine AnyB.each (rs := [6]) (by kernel_rfl) (by simp) ?_
        refine EachB.cons rfl (fun K hK hB => ?_) ?_
        · skip
          (go_simp)
          refine hK.out _ _ ?_ (fun hHeld5 => ?_)
          · ((try dsimp only); (try trivial))
          clear hB hK K hHeld4
          refine AnyB.takeQ (i := 15) (oi := _) (v := ?_) (by simp only [List.getElem?_toArray, List.getElem?_cons_zero, List.getElem?_cons_succ]; rfl) (by kernel_rfl) (by kernel_rfl) (by kernel_rfl) (by intro _ _ _ h; exact h) (Or.inl ⟨by rfl, ?_⟩) ?_
          rotate_left
          · (intro w hSw; (try dsimp only at hSw); go_simp; (try (with_reducible rfl)))
          try simp only [Act.put, List.setIfInBounds_toArray, List.set_cons_zero, List.set_cons_succ]
          refine AnyB.takeQ (i := 16) (oi := _) (v := ?_) (by simp only [List.getElem?_toArray, List.getElem?_cons_zero, List.getElem?_cons_succ]; rfl) (by kernel_rfl) (by kernel_rfl) (by kernel_rfl) (by intro _ _ _ h; exact h) (Or.inl ⟨by rfl, ?_⟩) ?_
          rotate_left
          · (intro w hSw; (try dsimp only at hSw); go_simp; (try (with_reducible rfl)))
          try simp only [Act.put, List.setIfInBounds_toArray, List.set_cons_zero, List.set_cons_succ]
          refine AnyB.none (by kernel_rfl) ?_ _
          go_wp2_with fail
          go_ret
          exact ⟨_, rfl, C6.out.le (by omega), G6.out⟩
        exact EachB.nil
      exact EachB.nil
    exact EachB.nil
  · go_wp2_with fail
    go_ret
    exact ⟨_, rfl, C3.out.le (by omega), G3.out⟩
theorem cur_oddWord_any (n b N : Nat) (zs : List Int) (cv : Value) (w : World) (h : Cur w b zs cv N) (h1 : 1 ≤ n) (h5 : n ≤ 5) (hN : N + 10 ≤ 1000) (hr : ∀ z ∈ zs, 0 ≤ z ∧ z ≤ 255) :
    Calls Try.prog 52 #[.pointer (some ⟨b, 0, none⟩), .int .i64 (n : Int)] w fun e w' => ∃ x : Int, e = .returned (.int .i64 x) ∧ Cur w' b zs cv (N + 10) ∧ w.grownBy w' (some b) := by
  have : n = 1 ∨ n = 2 ∨ n = 3 ∨ n = 4 ∨ n = 5 := by omega
  rcases this with rfl | rfl | rfl | rfl | rfl
  · exact cur_oddWord_1 b N zs cv w h hN hr
  · exact cur_oddWord_2 b N zs cv w h hN hr
  · exact cur_oddWord_3 b N zs cv w h hN hr
  · exact cur_oddWord_4 b N zs cv w h hN hr
  · exact cur_oddWord_5 b N zs cv w h hN hr
end Go.Proofs.Ytgonldkgghikiaa
namespace Go.Proofs.Ytgonldkgghikiaa
set_option linter.unusedSimpArgs false
set_option linter.unusedVariables false
set_option linter.unnecessarySimpa false
set_option maxRecDepth 200000
open Go.ChangeShapes Go.WideShapes Go.ChangeAt Go.RowKit

theorem cur_new {w : World} {v : Value} {zs : List Int} (h : RdB w v zs) : Cur (w.alloc (.cells #[v, .int .i64 0, .int .u64 0] 77)) w.heap.size zs v 0 := by
  have hb : Below w.heap.size w (w.alloc (.cells #[v, .int .i64 0, .int .u64 0] 77)) := (by repeat (first | exact Below.refl _ _ | assumption | refine Below.drew ?_ | refine below_drewN ?_ _ | refine Below.alloc ?_ (by first | omega | (simp <;> omega)) _ | refine Below.setCell ?_ (by first | omega | (simp <;> omega)) _ | refine Below.trans ?_ (Below.mono (by assumption) (by first | omega | (simp <;> omega)))))
  have hc := news_cells w [v, .int .i64 0, .int .u64 0] 77
  refine ⟨0, 0, Nat.le_refl _, Rd.below h hb rfl, ?_, ?_, ?_, new_frz _ _ _ _, new_frz _ _ _ _, fun h9 g e e2 => ?_, by decide⟩
  · have := hc 0 _ rfl
    rwa [Addr.add_lit] at this
  · have := hc 1 _ rfl
    rwa [Addr.add_lit] at this
  · have := hc 2 _ rfl
    rwa [Addr.add_lit] at this
  · rcases h.2 with ⟨⟨a0, c0, rfl⟩, h0⟩ | ⟨b, off, cap, rfl, hb, _, _, _⟩
    · exact h9 h0
    · injection e with e
      have e3 : b = g := e
      omega
theorem lit_num (w : World) (L : List Int) (h : L.length ≤ 1000) : RdI (w.alloc (.cells (L.map (Value.int .i64)).toArray 3)) (.slice (some ⟨w.heap.size, 0, none⟩) L.length L.length) L := by
  refine ⟨by simp, .inr ⟨w.heap.size, 0, L.length, rfl, by simp, Nat.le_refl _, by omega, fun j u hj => ?_⟩⟩
  have := news_cells w (L.map (Value.int .i64)) 3 j u hj
  rwa [Addr.add_lit] at this
theorem off_new {w0 w : World} {n c : Nat} (h : w0.heap.size < w.heap.size) : ∀ g, (Value.slice (some ⟨w.heap.size, 0, none⟩) n c).ownBlock = some g → g ≠ w0.heap.size := fun g e => by
  have e3 : w.heap.size = g := by injection e
  omega
theorem below_box {w0 w w' : World} {B b : Nat} (h : Below B w0 w) (hg : w.grownBy w' (some b)) (h1 : B ≤ b) (h2 : B ≤ w.heap.size) : Below B w0 w' :=
  Below.grown h hg h2 (fun k hk => by injection hk with hk; omega)
/-- The state of the draw: the cursor in the box at w's end. -/
structure Dr (w0 w : World) (zs : List Int) (cv : Value) (N : Nat) : Prop where
  cur : Cur w w0.heap.size zs cv N
  bel : Below w0.heap.size w0 w
  lt : w0.heap.size < w.heap.size
theorem Dr.step {w0 w w' : World} {zs : List Int} {cv : Value} {N M : Nat} (h : Dr w0 w zs cv N) (hc : Cur w' w0.heap.size zs cv M) (hg : w.grownBy w' (some w0.heap.size)) : Dr w0 w' zs cv M :=
  ⟨hc, below_box h.bel hg (Nat.le_refl _) (Nat.le_of_lt h.lt), Nat.lt_of_lt_of_le h.lt hg.size⟩
theorem Dr.call {w0 w w' : World} {zs : List Int} {cv : Value} {N : Nat} (h : Dr w0 w zs cv N) (hb : Below w.heap.size w w') : Dr w0 w' zs cv N :=
  ⟨h.cur.call hb, Below.trans h.bel (hb.mono (Nat.le_of_lt h.lt)), Nat.lt_of_lt_of_le h.lt hb.size⟩
set_option maxHeartbeats 8000000 in
theorem spec_DrawIsCodeWord_any (v : Value) (zs : List Int) (w : World) (h : RdB w v zs) (hr : ∀ z ∈ zs, 0 ≤ z ∧ z ≤ 255) :
    Calls Try.prog 28 #[v] w fun e w' => ∃ n x : Int, e = .returned (.tuple #[.int .i64 n, .int .i64 x]) ∧ Below w.heap.size w w' := by
  have HR := Lib.hid hr
  have H := Lib.hid h
  obtain ⟨A, c, rfl⟩ : ∃ a c, v = .slice a zs.length c := h.form_any
  have D0 := Lib.hid (show Dr w (w.alloc (.cells #[.slice A zs.length c, .int .i64 0, .int .u64 0] 77)) zs (.slice A zs.length c) 0 from ⟨cur_new H.out, (by repeat (first | exact Below.refl _ _ | assumption | refine Below.drew ?_ | refine below_drewN ?_ _ | refine Below.alloc ?_ (by first | omega | (simp <;> omega)) _ | refine Below.setCell ?_ (by first | omega | (simp <;> omega)) _ | refine Below.trans ?_ (Below.mono (by assumption) (by first | omega | (simp <;> omega))))), by simp⟩)
  clear h hr
  go_enter Try.func28, Try.ntmps28
  go_wp2_with fail
  have hs1 : (w.alloc (.cells #[.slice A zs.length c, .int .i64 0, .int .u64 0] 77)).heap.size = w.heap.size + 1 := by simp
  obtain ⟨b1, hb1⟩ : ∃ b, b = w.heap.size + 1 := ⟨_, rfl⟩
  rw [← hb1] at hs1 ⊢
  clear hb1
  generalize (w.alloc (.cells #[.slice A zs.length c, .int .i64 0, .int .u64 0] 77)) = w1 at *
  subst hs1
  have L1 := Lib.hid (lit_num w1 [1, 2, 3, 4, 4, 5, 5] (by decide))
  have D1 := Lib.hid (D0.out.call (show Below w1.heap.size w1 (w1.alloc (.cells #[.int .i64 1, .int .i64 2, .int .i64 3, .int .i64 4, .int .i64 4, .int .i64 5, .int .i64 5] 3)) from (by repeat (first | exact Below.refl _ _ | assumption | refine Below.drew ?_ | refine below_drewN ?_ _ | refine Below.alloc ?_ (by first | omega | (simp <;> omega)) _ | refine Below.setCell ?_ (by first | omega | (simp <;> omega)) _ | refine Below.trans ?_ (Below.mono (by assumption) (by first | omega | (simp <;> omega)))))))
  have O1 : Hid (∀ g, (Value.slice (some ⟨w1.heap.size, 0, none⟩) 7 7).ownBlock = some g → g ≠ w.heap.size) := off_new D0.out.lt
  refine (cur_among_any w.heap.size 0 _ [1, 2, 3, 4, 4, 5, 5] zs _ _ D1.out.cur L1.out (by decide) (by decide) O1.out (by omega) HR.out).mono ?_; rintro e w2 ⟨n, rfl, hn, hc2, hg2⟩
  have D2 := Lib.hid (D1.out.step hc2 hg2)
  clear hc2 hg2 D0 D1 L1 O1
  obtain ⟨k, rfl, k1, k5⟩ : ∃ k : Nat, n = (k : Int) ∧ 1 ≤ k ∧ k ≤ 5 := by
    simp only [List.mem_cons, List.not_mem_nil, or_false] at hn
    exact ⟨n.toNat, by omega, by omega, by omega⟩
  clear hn
  go_wp2_with fail
  refine (cur_oddWord_any k w.heap.size 2 zs _ _ D2.out.cur k1 k5 (by omega) HR.out).mono ?_; rintro e w3 ⟨x, rfl, hc3, hg3⟩
  have D3 := Lib.hid (D2.out.step hc3 hg3)
  clear hc3 hg3 D2
  go_wp2_with fail
  refine (cur_one_any w.heap.size 12 16 zs _ _ D3.out.cur (by omega) (by omega) HR.out).mono ?_; rintro e w4 ⟨q1, rfl, hc4, hg4⟩
  have D4 := Lib.hid (D3.out.step hc4 hg4)
  clear hc4 hg4 D3
  cases q1 with
  | true =>
    have hk : k = 1 ∨ k = 2 ∨ k = 3 ∨ k = 4 ∨ k = 5 := by omega
    clear k1 k5
    rcases hk with rfl | rfl | rfl | rfl | rfl
    · go_wp2_with fail
      have L4 := Lib.hid (lit_num w4 [-1, 2] (by decide))
      have E4 := Lib.hid (D4.out.call (show Below w4.heap.size w4 (w4.alloc (.cells #[.int .i64 (-1), .int .i64 2] 3)) from (by repeat (first | exact Below.refl _ _ | assumption | refine Below.drew ?_ | refine below_drewN ?_ _ | refine Below.alloc ?_ (by first | omega | (simp <;> omega)) _ | refine Below.setCell ?_ (by first | omega | (simp <;> omega)) _ | refine Below.trans ?_ (Below.mono (by assumption) (by first | omega | (simp <;> omega)))))))
      have O4 : Hid (∀ g, (Value.slice (some ⟨w4.heap.size, 0, none⟩) 2 2).ownBlock = some g → g ≠ w.heap.size) := off_new D4.out.lt
      refine (cur_among_any w.heap.size 14 _ [-1, 2] zs _ _ E4.out.cur L4.out (by decide) (by decide) O4.out (by omega) HR.out).mono ?_; rintro e w9 ⟨x9, rfl, _, hc9, hg9⟩
      have D9 := Lib.hid (E4.out.step hc9 hg9)
      clear hc9 hg9 E4 D4 L4 O4
      go_wp2_with fail
      refine (cur_one_any w.heap.size 16 16 zs _ _ D9.out.cur (by omega) (by omega) HR.out).mono ?_; rintro e w5 ⟨q2, rfl, hc5, hg5⟩
      have D5 := Lib.hid (D9.out.step hc5 hg5)
      clear hc5 hg5 D9
      cases q2 with
      | true =>
        go_wp2_with fail
        have L5 := Lib.hid (lit_num w5 [0, 6, -1] (by decide))
        have D6 := Lib.hid (D5.out.call (show Below w5.heap.size w5 (w5.alloc (.cells #[.int .i64 0, .int .i64 6, .int .i64 (-1)] 3)) from (by repeat (first | exact Below.refl _ _ | assumption | refine Below.drew ?_ | refine below_drewN ?_ _ | refine Below.alloc ?_ (by first | omega | (simp <;> omega)) _ | refine Below.setCell ?_ (by first | omega | (simp <;> omega)) _ | refine Below.trans ?_ (Below.mono (by assumption) (by first | omega | (simp <;> omega)))))))
        have O5 : Hid (∀ g, (Value.slice (some ⟨w5.heap.size, 0, none⟩) 3 3).ownBlock = some g → g ≠ w.heap.size) := off_new D5.out.lt
        refine (cur_among_any w.heap.size 18 _ [0, 6, -1] zs _ _ D6.out.cur L5.out (by decide) (by decide) O5.out (by omega) HR.out).mono ?_; rintro e w7 ⟨n2, rfl, _, hc7, hg7⟩
        have D7 := Lib.hid (D6.out.step hc7 hg7)
        clear hc7 hg7
        go_wp2_with fail
        go_ret2
        exact ⟨_, _, rfl, D7.out.bel⟩
      | false =>
        go_wp2_with fail
        go_ret2
        exact ⟨_, _, rfl, D5.out.bel⟩
    · go_wp2_with fail
      have L4 := Lib.hid (lit_num w4 [-1, 8] (by decide))
      have E4 := Lib.hid (D4.out.call (show Below w4.heap.size w4 (w4.alloc (.cells #[.int .i64 (-1), .int .i64 8] 3)) from (by repeat (first | exact Below.refl _ _ | assumption | refine Below.drew ?_ | refine below_drewN ?_ _ | refine Below.alloc ?_ (by first | omega | (simp <;> omega)) _ | refine Below.setCell ?_ (by first | omega | (simp <;> omega)) _ | refine Below.trans ?_ (Below.mono (by assumption) (by first | omega | (simp <;> omega)))))))
      have O4 : Hid (∀ g, (Value.slice (some ⟨w4.heap.size, 0, none⟩) 2 2).ownBlock = some g → g ≠ w.heap.size) := off_new D4.out.lt
      refine (cur_among_any w.heap.size 14 _ [-1, 8] zs _ _ E4.out.cur L4.out (by decide) (by decide) O4.out (by omega) HR.out).mono ?_; rintro e w9 ⟨x9, rfl, _, hc9, hg9⟩
      have D9 := Lib.hid (E4.out.step hc9 hg9)
      clear hc9 hg9 E4 D4 L4 O4
      go_wp2_with fail
      refine (cur_one_any w.heap.size 16 16 zs _ _ D9.out.cur (by omega) (by omega) HR.out).mono ?_; rintro e w5 ⟨q2, rfl, hc5, hg5⟩
      have D5 := Lib.hid (D9.out.step hc5 hg5)
      clear hc5 hg5 D9
      cases q2 with
      | true =>
        go_wp2_with fail
        have L5 := Lib.hid (lit_num w5 [0, 6, -1] (by decide))
        have D6 := Lib.hid (D5.out.call (show Below w5.heap.size w5 (w5.alloc (.cells #[.int .i64 0, .int .i64 6, .int .i64 (-1)] 3)) from (by repeat (first | exact Below.refl _ _ | assumption | refine Below.drew ?_ | refine below_drewN ?_ _ | refine Below.alloc ?_ (by first | omega | (simp <;> omega)) _ | refine Below.setCell ?_ (by first | omega | (simp <;> omega)) _ | refine Below.trans ?_ (Below.mono (by assumption) (by first | omega | (simp <;> omega)))))))
        have O5 : Hid (∀ g, (Value.slice (some ⟨w5.heap.size, 0, none⟩) 3 3).ownBlock = some g → g ≠ w.heap.size) := off_new D5.out.lt
        refine (cur_among_any w.heap.size 18 _ [0, 6, -1] zs _ _ D6.out.cur L5.out (by decide) (by decide) O5.out (by omega) HR.out).mono ?_; rintro e w7 ⟨n2, rfl, _, hc7, hg7⟩
        have D7 := Lib.hid (D6.out.step hc7 hg7)
        clear hc7 hg7
        go_wp2_with fail
        go_ret2
        exact ⟨_, _, rfl, D7.out.bel⟩
      | false =>
        go_wp2_with fail
        go_ret2
        exact ⟨_, _, rfl, D5.out.bel⟩
    · go_wp2_with fail
      have L4 := Lib.hid (lit_num w4 [-1, 128] (by decide))
      have E4 := Lib.hid (D4.out.call (show Below w4.heap.size w4 (w4.alloc (.cells #[.int .i64 (-1), .int .i64 128] 3)) from (by repeat (first | exact Below.refl _ _ | assumption | refine Below.drew ?_ | refine below_drewN ?_ _ | refine Below.alloc ?_ (by first | omega | (simp <;> omega)) _ | refine Below.setCell ?_ (by first | omega | (simp <;> omega)) _ | refine Below.trans ?_ (Below.mono (by assumption) (by first | omega | (simp <;> omega)))))))
      have O4 : Hid (∀ g, (Value.slice (some ⟨w4.heap.size, 0, none⟩) 2 2).ownBlock = some g → g ≠ w.heap.size) := off_new D4.out.lt
      refine (cur_among_any w.heap.size 14 _ [-1, 128] zs _ _ E4.out.cur L4.out (by decide) (by decide) O4.out (by omega) HR.out).mono ?_; rintro e w9 ⟨x9, rfl, _, hc9, hg9⟩
      have D9 := Lib.hid (E4.out.step hc9 hg9)
      clear hc9 hg9 E4 D4 L4 O4
      go_wp2_with fail
      refine (cur_one_any w.heap.size 16 16 zs _ _ D9.out.cur (by omega) (by omega) HR.out).mono ?_; rintro e w5 ⟨q2, rfl, hc5, hg5⟩
      have D5 := Lib.hid (D9.out.step hc5 hg5)
      clear hc5 hg5 D9
      cases q2 with
      | true =>
        go_wp2_with fail
        have L5 := Lib.hid (lit_num w5 [0, 6, -1] (by decide))
        have D6 := Lib.hid (D5.out.call (show Below w5.heap.size w5 (w5.alloc (.cells #[.int .i64 0, .int .i64 6, .int .i64 (-1)] 3)) from (by repeat (first | exact Below.refl _ _ | assumption | refine Below.drew ?_ | refine below_drewN ?_ _ | refine Below.alloc ?_ (by first | omega | (simp <;> omega)) _ | refine Below.setCell ?_ (by first | omega | (simp <;> omega)) _ | refine Below.trans ?_ (Below.mono (by assumption) (by first | omega | (simp <;> omega)))))))
        have O5 : Hid (∀ g, (Value.slice (some ⟨w5.heap.size, 0, none⟩) 3 3).ownBlock = some g → g ≠ w.heap.size) := off_new D5.out.lt
        refine (cur_among_any w.heap.size 18 _ [0, 6, -1] zs _ _ D6.out.cur L5.out (by decide) (by decide) O5.out (by omega) HR.out).mono ?_; rintro e w7 ⟨n2, rfl, _, hc7, hg7⟩
        have D7 := Lib.hid (D6.out.step hc7 hg7)
        clear hc7 hg7
        go_wp2_with fail
        go_ret2
        exact ⟨_, _, rfl, D7.out.bel⟩
      | false =>
        go_wp2_with fail
        go_ret2
        exact ⟨_, _, rfl, D5.out.bel⟩
    · go_wp2_with fail
      have L4 := Lib.hid (lit_num w4 [-1, 32768] (by decide))
      have E4 := Lib.hid (D4.out.call (show Below w4.heap.size w4 (w4.alloc (.cells #[.int .i64 (-1), .int .i64 32768] 3)) from (by repeat (first | exact Below.refl _ _ | assumption | refine Below.drew ?_ | refine below_drewN ?_ _ | refine Below.alloc ?_ (by first | omega | (simp <;> omega)) _ | refine Below.setCell ?_ (by first | omega | (simp <;> omega)) _ | refine Below.trans ?_ (Below.mono (by assumption) (by first | omega | (simp <;> omega)))))))
      have O4 : Hid (∀ g, (Value.slice (some ⟨w4.heap.size, 0, none⟩) 2 2).ownBlock = some g → g ≠ w.heap.size) := off_new D4.out.lt
      refine (cur_among_any w.heap.size 14 _ [-1, 32768] zs _ _ E4.out.cur L4.out (by decide) (by decide) O4.out (by omega) HR.out).mono ?_; rintro e w9 ⟨x9, rfl, _, hc9, hg9⟩
      have D9 := Lib.hid (E4.out.step hc9 hg9)
      clear hc9 hg9 E4 D4 L4 O4
      go_wp2_with fail
      refine (cur_one_any w.heap.size 16 16 zs _ _ D9.out.cur (by omega) (by omega) HR.out).mono ?_; rintro e w5 ⟨q2, rfl, hc5, hg5⟩
      have D5 := Lib.hid (D9.out.step hc5 hg5)
      clear hc5 hg5 D9
      cases q2 with
      | true =>
        go_wp2_with fail
        have L5 := Lib.hid (lit_num w5 [0, 6, -1] (by decide))
        have D6 := Lib.hid (D5.out.call (show Below w5.heap.size w5 (w5.alloc (.cells #[.int .i64 0, .int .i64 6, .int .i64 (-1)] 3)) from (by repeat (first | exact Below.refl _ _ | assumption | refine Below.drew ?_ | refine below_drewN ?_ _ | refine Below.alloc ?_ (by first | omega | (simp <;> omega)) _ | refine Below.setCell ?_ (by first | omega | (simp <;> omega)) _ | refine Below.trans ?_ (Below.mono (by assumption) (by first | omega | (simp <;> omega)))))))
        have O5 : Hid (∀ g, (Value.slice (some ⟨w5.heap.size, 0, none⟩) 3 3).ownBlock = some g → g ≠ w.heap.size) := off_new D5.out.lt
        refine (cur_among_any w.heap.size 18 _ [0, 6, -1] zs _ _ D6.out.cur L5.out (by decide) (by decide) O5.out (by omega) HR.out).mono ?_; rintro e w7 ⟨n2, rfl, _, hc7, hg7⟩
        have D7 := Lib.hid (D6.out.step hc7 hg7)
        clear hc7 hg7
        go_wp2_with fail
        go_ret2
        exact ⟨_, _, rfl, D7.out.bel⟩
      | false =>
        go_wp2_with fail
        go_ret2
        exact ⟨_, _, rfl, D5.out.bel⟩
    · go_wp2_with fail
      have L4 := Lib.hid (lit_num w4 [-1, 2147483648] (by decide))
      have E4 := Lib.hid (D4.out.call (show Below w4.heap.size w4 (w4.alloc (.cells #[.int .i64 (-1), .int .i64 2147483648] 3)) from (by repeat (first | exact Below.refl _ _ | assumption | refine Below.drew ?_ | refine below_drewN ?_ _ | refine Below.alloc ?_ (by first | omega | (simp <;> omega)) _ | refine Below.setCell ?_ (by first | omega | (simp <;> omega)) _ | refine Below.trans ?_ (Below.mono (by assumption) (by first | omega | (simp <;> omega)))))))
      have O4 : Hid (∀ g, (Value.slice (some ⟨w4.heap.size, 0, none⟩) 2 2).ownBlock = some g → g ≠ w.heap.size) := off_new D4.out.lt
      refine (cur_among_any w.heap.size 14 _ [-1, 2147483648] zs _ _ E4.out.cur L4.out (by decide) (by decide) O4.out (by omega) HR.out).mono ?_; rintro e w9 ⟨x9, rfl, _, hc9, hg9⟩
      have D9 := Lib.hid (E4.out.step hc9 hg9)
      clear hc9 hg9 E4 D4 L4 O4
      go_wp2_with fail
      refine (cur_one_any w.heap.size 16 16 zs _ _ D9.out.cur (by omega) (by omega) HR.out).mono ?_; rintro e w5 ⟨q2, rfl, hc5, hg5⟩
      have D5 := Lib.hid (D9.out.step hc5 hg5)
      clear hc5 hg5 D9
      cases q2 with
      | true =>
        go_wp2_with fail
        have L5 := Lib.hid (lit_num w5 [0, 6, -1] (by decide))
        have D6 := Lib.hid (D5.out.call (show Below w5.heap.size w5 (w5.alloc (.cells #[.int .i64 0, .int .i64 6, .int .i64 (-1)] 3)) from (by repeat (first | exact Below.refl _ _ | assumption | refine Below.drew ?_ | refine below_drewN ?_ _ | refine Below.alloc ?_ (by first | omega | (simp <;> omega)) _ | refine Below.setCell ?_ (by first | omega | (simp <;> omega)) _ | refine Below.trans ?_ (Below.mono (by assumption) (by first | omega | (simp <;> omega)))))))
        have O5 : Hid (∀ g, (Value.slice (some ⟨w5.heap.size, 0, none⟩) 3 3).ownBlock = some g → g ≠ w.heap.size) := off_new D5.out.lt
        refine (cur_among_any w.heap.size 18 _ [0, 6, -1] zs _ _ D6.out.cur L5.out (by decide) (by decide) O5.out (by omega) HR.out).mono ?_; rintro e w7 ⟨n2, rfl, _, hc7, hg7⟩
        have D7 := Lib.hid (D6.out.step hc7 hg7)
        clear hc7 hg7
        go_wp2_with fail
        go_ret2
        exact ⟨_, _, rfl, D7.out.bel⟩
      | false =>
        go_wp2_with fail
        go_ret2
        exact ⟨_, _, rfl, D5.out.bel⟩
  | false =>
    go_wp2_with fail
    refine (cur_one_any w.heap.size 14 16 zs _ _ D4.out.cur (by omega) (by omega) HR.out).mono ?_; rintro e w5 ⟨q2, rfl, hc5, hg5⟩
    have D5 := Lib.hid (D4.out.step hc5 hg5)
    clear hc5 hg5 D4
    cases q2 with
    | true =>
      go_wp2_with fail
      have L5 := Lib.hid (lit_num w5 [0, 6, -1] (by decide))
      have D6 := Lib.hid (D5.out.call (show Below w5.heap.size w5 (w5.alloc (.cells #[.int .i64 0, .int .i64 6, .int .i64 (-1)] 3)) from (by repeat (first | exact Below.refl _ _ | assumption | refine Below.drew ?_ | refine below_drewN ?_ _ | refine Below.alloc ?_ (by first | omega | (simp <;> omega)) _ | refine Below.setCell ?_ (by first | omega | (simp <;> omega)) _ | refine Below.trans ?_ (Below.mono (by assumption) (by first | omega | (simp <;> omega)))))))
      have O5 : Hid (∀ g, (Value.slice (some ⟨w5.heap.size, 0, none⟩) 3 3).ownBlock = some g → g ≠ w.heap.size) := off_new D5.out.lt
      refine (cur_among_any w.heap.size 16 _ [0, 6, -1] zs _ _ D6.out.cur L5.out (by decide) (by decide) O5.out (by omega) HR.out).mono ?_; rintro e w7 ⟨n2, rfl, _, hc7, hg7⟩
      have D7 := Lib.hid (D6.out.step hc7 hg7)
      clear hc7 hg7
      go_wp2_with fail
      go_ret2
      exact ⟨_, _, rfl, D7.out.bel⟩
    | false =>
      go_wp2_with fail
      go_ret2
      exact ⟨_, _, rfl, D5.out.bel⟩
end Go.Proofs.Ytgonldkgghikiaa
