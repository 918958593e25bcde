/- Bytes that are read; the reference's cursor over them (l1Cur): its box. -/
import Derived.Test.YteimcfbliigjmaaZ05M
import Derived.Test.YteimcfbliigjmaaZ07Cut1
import Derived.Test.YteimcfbliigjmaaZ10M
import Derived.Test.YteimcfbliigjmaaZ17Two2
import Derived.Test.YteimcfbliigjmaaZ06Dat
namespace Go.Proofs.Yteimcfbliigjmaa
set_option linter.unusedSimpArgs false
set_option linter.unusedVariables false
set_option linter.unnecessarySimpa false
set_option maxRecDepth 200000
open Go.ChangeShapes Go.WideShapes Go.ChangeAt Go.RowKit

def RdB (w : World) (v : Value) (zs : List Int) : Prop := Rd w v zs.length 1 (zs.map (Value.int .u8))
def IsBytes (w : World) (v : Value) : Prop := ∃ zs : List Int, RdB w v zs ∧ ∀ z ∈ zs, 0 ≤ z ∧ z ≤ 255
theorem u8_range {n : Int} (h : (Lit.int .u8 n).wf = true) : 0 ≤ n ∧ n ≤ 255 := by
  have h := h
  simp [Lit.wf, IntKind.min, IntKind.max, IntKind.signed, IntKind.bits] at h
  omega
section
variable {H : Type} {enc : TypeId × Value → H} {W : World} {base : Nat} {spare : Nat → Bool} {held : Bool} {r : Reach} {b0 : Nat}
theorem cellBytes_of {n : Nat} {t e : TypeId} {v : Value} {y : DataW H × List MemPlace} (ht : Try.prog.underlying t = some (.slice e)) (he : Try.prog.underlying e = some (.int .u8)) (hc : Try.prog.cellsOf e = 1) (h : DataW.trod enc Try.prog W base spare held n t [v] = some y) : IsBytes W v := by
  rcases open_ints ht he hc h with ⟨hv, _⟩ | ⟨a, len, cap, zs, hv, _, hlc, hcm, hzl, _, hcell, hwf⟩
  · simp at hv; subst hv
    exact ⟨[], ⟨rfl, .inl ⟨⟨_, _, rfl⟩, rfl⟩⟩, fun z hz => by cases hz⟩
  · simp at hv; subst hv
    have hle : len ≤ zs.length := by rw [hzl]; split <;> omega
    have hrange : ∀ z ∈ zs.take len, 0 ≤ z ∧ z ≤ 255 := fun z hz => u8_range (hwf z (List.mem_of_mem_take hz))
    have hlen : (zs.take len).length = len := by simp; omega
    rcases Nat.eq_zero_or_pos len with h0 | h0
    · subst h0
      exact ⟨[], ⟨rfl, .inl ⟨⟨_, _, rfl⟩, rfl⟩⟩, fun z hz => by cases hz⟩
    · have c0 := hcell 0 (by omega)
      have hs : a.spot = none := by simpa [Addr.add] using addr_none c0
      obtain ⟨b, off, sp⟩ := a
      simp at hs; subst hs
      refine ⟨zs.take len, ⟨by simp, .inr ⟨b, off, cap, by rw [hlen], World.block_lt_of_cell? _ _ c0, by omega, by simpa [maxLen] using hcm, fun j u hj => ?_⟩⟩, hrange⟩
      have hj' := (List.getElem?_eq_some_iff.1 hj).1
      simp at hj'
      have := hcell j (by omega)
      rw [Addr.add_lit] at this
      rw [this, ← hj]
      have h2 : j < zs.length := by omega
      have h3 : j < len := by omega
      simp [List.getElem?_take, h3, List.getD, List.getElem?_eq_getElem h2]
theorem isBytes_of {v : Value} {d : DataW H} {p : List MemPlace} (hv : Value.okWide Try.prog W r b0 22 v) (h : DataW.Trod enc Try.prog W base spare held 22 v d p) : IsBytes W v := by
  obtain ⟨fuel, hf⟩ := h
  obtain ⟨cs, hcs, hl⟩ : ∃ c, v.cells.toList = [c] ∧ v = c := by
    obtain ⟨a, n, c, rfl⟩ := okWide_slice Try.underlying22 hv
    exact ⟨_, rfl, rfl⟩
  rw [hcs] at hf; subst hl
  exact cellBytes_of Try.underlying22 Try.underlying5 (by kernel_rfl) hf
end
theorem byte_at {w : World} {v : Value} {zs : List Int} (h : RdB w v zs) (hr : ∀ z ∈ zs, 0 ≤ z ∧ z ≤ 255) : ∃ A c, v = .slice A zs.length c ∧ Hid (∀ k, k < zs.length → ∃ b off y, A = some ⟨b, off, none⟩ ∧ b < w.heap.size ∧ w.cell? ⟨b, off + k, none⟩ = some (.int .u8 y) ∧ 0 ≤ y ∧ y ≤ 255) := by
  rcases h.2 with ⟨⟨a0, c0, rfl⟩, h0⟩ | ⟨b, off, cap, rfl, hb, _, _, hc⟩
  · exact ⟨a0, c0, by rw [h0], show ∀ _, _ from fun k hk => by omega⟩
  · refine ⟨_, cap, rfl, show ∀ _, _ from fun k hk => ⟨b, off, zs[k], rfl, hb, ?_, hr _ (List.getElem_mem hk)⟩⟩
    exact hc k (.int .u8 zs[k]) (by simp [hk])
/-- The cursor's box. -/
structure CurC (w : World) (b : Nat) (zs : List Int) (cv : Value) (a s : Nat) : Prop where
  rd : RdB w cv zs
  c0 : w.cell? ⟨b, 0, none⟩ = some cv
  c1 : w.cell? ⟨b, 1, none⟩ = some (.int .i64 (a : Int))
  c2 : w.cell? ⟨b, 2, none⟩ = some (.int .u64 (s : Int))
  f1 : w.frozen? ⟨b, 1, none⟩ = false
  f2 : w.frozen? ⟨b, 2, none⟩ = false
  off : zs.length ≠ 0 → ∀ g, cv.ownBlock = some g → g ≠ b
  sm : s < 18446744073709551616
theorem box_grown (w : World) (b o : Nat) (u : Value) : w.grownBy (w.setCell ⟨b, o, none⟩ u) (some b) := by
  have q : Below 0 w (w.setCell ⟨b, o, none⟩ u) := Below.setCell (p := ⟨b, o, none⟩) (Below.refl 0 w) (Nat.zero_le _) u
  exact ⟨q.os, q.tape, q.output, q.size, fun k hk hne => Below.heap_setCell _ _ _ k (fun e => hne (by rw [e]))⟩
theorem rdB_grown {w w' : World} {v : Value} {zs : List Int} {b : Nat} (h : RdB w v zs) (hg : w.grownBy w' (some b)) (hn : zs.length ≠ 0 → ∀ g, v.ownBlock = some g → g ≠ b) : RdB w' v zs := by
  refine ⟨h.1, ?_⟩
  rcases h.2 with h0 | ⟨g, off, cap, e, hb, h1, h2, hc⟩
  · exact .inl h0
  · refine .inr ⟨g, off, cap, e, Nat.lt_of_lt_of_le hb hg.size, h1, h2, fun j u hj => ?_⟩
    have hne : g ≠ b := hn (fun h9 => by have := (List.getElem?_eq_some_iff.1 hj).1; simp at this; omega) g (by rw [e]; rfl)
    rw [World.cell?_of_block (w := w) (w' := w') (a := ⟨g, off + j, none⟩) (hg.block g hb (fun e2 => hne (by injection e2)))]
    exact hc j u hj
section
variable {w w' : World} {b a s a2 s2 : Nat} {zs : List Int} {cv : Value}
theorem CurC.call (h : CurC w b zs cv a s) (hb : Below w.heap.size w w') : CurC w' b zs cv a s := by
  have hl := World.block_lt_of_cell? _ _ h.c0
  exact ⟨Rd.below h.rd hb rfl, (hb.cell (World.block_lt_of_cell? _ _ h.c0)).trans h.c0, (hb.cell (World.block_lt_of_cell? _ _ h.c1)).trans h.c1, (hb.cell (World.block_lt_of_cell? _ _ h.c2)).trans h.c2, below_frz hb rfl hl h.f1, below_frz hb rfl hl h.f2, h.off, h.sm⟩
theorem CurC.set1 {z : Int} (h : CurC w b zs cv a s) (hz : z = (a2 : Int)) : CurC (w.setCell ⟨b, 1, none⟩ (.int .i64 z)) b zs cv a2 s := by
  subst hz
  exact ⟨rdB_grown h.rd (box_grown _ _ _ _) h.off, cell_set_other h.c0, World.cell?_setCell_same _ _ _ h.c1, cell_set_other h.c2, by rw [World.frozen?_setCell]; exact h.f1, by rw [World.frozen?_setCell]; exact h.f2, h.off, h.sm⟩
theorem CurC.set2 (h : CurC w b zs cv a s) (hs : s2 < 18446744073709551616) : CurC (w.setCell ⟨b, 2, none⟩ (.int .u64 (s2 : Int))) b zs cv a s2 :=
  ⟨rdB_grown h.rd (box_grown _ _ _ _) h.off, cell_set_other h.c0, cell_set_other h.c1, World.cell?_setCell_same _ _ _ h.c2, by rw [World.frozen?_setCell]; exact h.f1, by rw [World.frozen?_setCell]; exact h.f2, h.off, hs⟩
end
/-- The cursor after at most N steps. -/
def Cur (w : World) (b : Nat) (zs : List Int) (cv : Value) (N : Nat) : Prop := ∃ a s : Nat, a ≤ N ∧ CurC w b zs cv a s
theorem Cur.call {w w' : World} {b N : Nat} {zs : List Int} {cv : Value} (h : Cur w b zs cv N) (hb : Below w.heap.size w w') : Cur w' b zs cv N := by
  obtain ⟨a, s, ha, hc⟩ := h
  exact ⟨a, s, ha, hc.call hb⟩
theorem Cur.le {w : World} {b N M : Nat} {zs : List Int} {cv : Value} (h : Cur w b zs cv N) (hl : N ≤ M) : Cur w b zs cv M := by
  obtain ⟨a, s, ha, hc⟩ := h
  exact ⟨a, s, Nat.le_trans ha hl, hc⟩
theorem u64_in {n : Nat} (h : n < 18446744073709551616) : IntKind.u64.wrap (n : Int) = (n : Int) := by
  have e : IntKind.u64.wrap (n : Int) = (n : Int) % 18446744073709551616 := by
    simp [IntKind.wrap, IntKind.signed, IntKind.bits]
  rw [e]; omega
theorem and_u64_255 (z : Int) : ∃ x : Nat, wrap64 (bits .and .u64 z 255) = (x : Int) ∧ x ≤ 255 := by
  have h : bits .and .u64 z 255 = IntKind.u64.wrap (((BitVec.ofInt 64 z &&& BitVec.ofInt 64 255).toNat : Nat) : Int) := rfl
  rw [BitVec.toNat_and, show (BitVec.ofInt 64 255).toNat = 255 from by decide] at h
  have h2 : (BitVec.ofInt 64 z).toNat &&& 255 ≤ 255 := Nat.and_le_right
  refine ⟨(BitVec.ofInt 64 z).toNat &&& 255, ?_, h2⟩
  rw [h, u64_in (by omega)]
  exact IntWalk.wrap64_in _ ⟨by omega, by omega⟩
theorem cur_grown_refl (w : World) (r : Option Nat) : w.grownBy w r := ⟨rfl, rfl, rfl, Nat.le_refl _, fun _ _ _ => rfl⟩
theorem drew_grown (w : World) (r : Option Nat) : w.grownBy w.drew r := ⟨rfl, rfl, rfl, Nat.le_refl _, fun _ _ _ => rfl⟩
theorem wrap_u64 (x : Int) : ∃ n : Nat, IntKind.u64.wrap x = (n : Int) ∧ n < 18446744073709551616 := by
  have h1 : 0 ≤ x % 18446744073709551616 := Int.emod_nonneg _ (by decide)
  have h2 : x % 18446744073709551616 < 18446744073709551616 := Int.emod_lt_of_pos _ (by decide)
  refine ⟨(x % 18446744073709551616).toNat, ?_, by omega⟩
  have e : IntKind.u64.wrap x = x % 18446744073709551616 := by
    simp [IntKind.wrap, IntKind.signed, IntKind.bits]
  rw [e]; omega
end Go.Proofs.Yteimcfbliigjmaa
