/- The reference's cursor: next, pick, one, among. -/
import Derived.Test.YteimcfbliigjmaaZ36Cu0
import Derived.BigRegion
namespace Go.Proofs.Yteimcfbliigjmaa
set_option linter.unusedSimpArgs false
set_option linter.unusedVariables false
set_option linter.unnecessarySimpa false
set_option maxRecDepth 200000
open Go.ChangeShapes Go.WideShapes Go.ChangeAt Go.RowKit

set_option maxHeartbeats 4000000 in
theorem cur_next_any (b N : Nat) (zs : List Int) (cv : Value) (w : World) (h : Cur w b zs cv N) (hN : N ≤ 1000) (hr : ∀ z ∈ zs, 0 ≤ z ∧ z ≤ 255) :
    Calls Try.prog 35 #[.pointer (some ⟨b, 0, none⟩)] w fun e w' => ∃ x : Nat, e = .returned (.int .i64 (x : Int)) ∧ x ≤ 255 ∧ Cur w' b zs cv (N + 1) ∧ w.grownBy w' (some b) := by
  obtain ⟨a, s, ha, hc⟩ := h
  obtain ⟨A, c, rfl, hb⟩ := byte_at hc.rd hr
  have HC := Lib.hid hc
  have t0 := hc.c0; have t1 := hc.c1; have t2 := hc.c2; have g1 := hc.f1; have g2 := hc.f2
  clear hc
  go_enter Try.func35, Try.ntmps35
  by_cases hlt : a < zs.length
  · have i1 : (a : Int) < (zs.length : Int) := by omega
    have i2 : (a : Int) + 1 ≤ (zs.length : Int) := by omega
    obtain ⟨b0, off, y, rfl, hb0, cy, y1, y2⟩ := hb.out a hlt
    have hwy : IntKind.i64.wrap y = y := IntWalk.i64_in _ (by omega)
    clear hb
    obtain ⟨s1, e1, l1⟩ := wrap_u64 ((s : Int) * 6364136223846793005)
    obtain ⟨s2, e2, l2⟩ := wrap_u64 ((s1 : Int) + y)
    obtain ⟨s3, e3, l3⟩ := wrap_u64 ((s2 : Int) + 1442695040888963407)
    have HC3 := Lib.hid ((HC.out.set1 (z := (a : Int) + 1) (a2 := a + 1) (by omega)).set2 l3)
    have G3 := Lib.hid (show w.grownBy ((w.setCell ⟨b, 1, none⟩ (.int .i64 ((a : Int) + 1))).setCell ⟨b, 2, none⟩ (.int .u64 (s3 : Int))) (some b) from grown_trans0 (box_grown _ _ _ _) (box_grown _ _ _ _))
    go_wp2_with fail
    go_region
    go_wp2_with fail
    go_region
    go_wp2_with fail
    generalize (w.setCell ⟨b, 1, none⟩ (.int .i64 ((a : Int) + 1))).setCell ⟨b, 2, none⟩ (.int .u64 (s3 : Int)) = w3 at *
    have k0 := HC3.out.c0; have k1 := HC3.out.c1; have k2 := HC3.out.c2
    rw [show ((a + 1 : Nat) : Int) = (a : Int) + 1 from by omega] at k1
    go_region
    go_wp2_with fail
    go_ret
    obtain ⟨x, rfl⟩ := Int.eq_ofNat_of_zero_le y1
    exact ⟨x, rfl, by omega, ⟨a + 1, s3, by omega, HC3.out.call (show Below w3.heap.size w3 w3.drew.drew.drew from (by repeat (first | exact Below.refl _ _ | assumption | refine Below.drew ?_ | refine below_drewN ?_ _ | refine Below.alloc ?_ (by first | omega | (simp <;> omega)) _ | refine Below.setCell ?_ (by first | omega | (simp <;> omega)) _ | refine Below.trans ?_ (Below.mono (by assumption) (by first | omega | (simp <;> omega))))))⟩, grown_trans0 G3.out (grown_trans0 (drew_grown _ _) (grown_trans0 (drew_grown _ _) (drew_grown _ _)))⟩
  · have i1 : ¬ (a : Int) < (zs.length : Int) := by omega
    have i2 : ¬ (a : Int) + 1 ≤ (zs.length : Int) := by omega
    obtain ⟨s1, e1, l1⟩ := wrap_u64 ((s : Int) * 6364136223846793005)
    obtain ⟨s3, e3, l3⟩ := wrap_u64 ((s1 : Int) + 1442695040888963407)
    have e4 : IntKind.u64.wrap (s1 : Int) = (s1 : Int) := u64_in l1
    have HC3 := Lib.hid ((HC.out.set1 (z := (a : Int) + 1) (a2 := a + 1) (by omega)).set2 l3)
    have G3 := Lib.hid (show w.grownBy ((w.setCell ⟨b, 1, none⟩ (.int .i64 ((a : Int) + 1))).setCell ⟨b, 2, none⟩ (.int .u64 (s3 : Int))) (some b) from grown_trans0 (box_grown _ _ _ _) (box_grown _ _ _ _))
    go_wp2_with fail
    go_region
    go_wp2_with fail
    generalize (w.setCell ⟨b, 1, none⟩ (.int .i64 ((a : Int) + 1))).setCell ⟨b, 2, none⟩ (.int .u64 (s3 : Int)) = w3 at *
    have k0 := HC3.out.c0; have k1 := HC3.out.c1; have k2 := HC3.out.c2
    rw [show ((a + 1 : Nat) : Int) = (a : Int) + 1 from by omega] at k1
    go_region
    go_wp2_with fail
    go_ret
    obtain ⟨x, hx, hx2⟩ := and_u64_255 ((s3 : Int) / 1099511627776)
    exact ⟨x, by rw [← hx]; rfl, hx2, ⟨a + 1, s3, by omega, HC3.out.call (show Below w3.heap.size w3 w3.drew.drew from (by repeat (first | exact Below.refl _ _ | assumption | refine Below.drew ?_ | refine below_drewN ?_ _ | refine Below.alloc ?_ (by first | omega | (simp <;> omega)) _ | refine Below.setCell ?_ (by first | omega | (simp <;> omega)) _ | refine Below.trans ?_ (Below.mono (by assumption) (by first | omega | (simp <;> omega))))))⟩, grown_trans0 G3.out (grown_trans0 (drew_grown _ _) (drew_grown _ _))⟩
set_option maxHeartbeats 4000000 in
theorem cur_pick_any (b N : Nat) (n : Nat) (zs : List Int) (cv : Value) (w : World) (h : Cur w b zs cv N) (hN : N + 2 ≤ 1000) (hn : n ≤ 65536) (hr : ∀ z ∈ zs, 0 ≤ z ∧ z ≤ 255) :
    Calls Try.prog 15 #[.pointer (some ⟨b, 0, none⟩), .int .i64 (n : Int)] w fun e w' => ∃ x : Nat, e = .returned (.int .i64 (x : Int)) ∧ (1 ≤ n → x < n) ∧ x < 65536 ∧ Cur w' b zs cv (N + 2) ∧ w.grownBy w' (some b) := by
  have H := Lib.hid h
  have HR := Lib.hid hr
  clear h hr
  go_enter Try.func15, Try.ntmps15
  by_cases h1 : n ≤ 1
  · have i1 : (n : Int) ≤ 1 := by omega
    go_wp2_with fail
    go_ret
    exact ⟨0, rfl, fun h => by omega, by omega, H.out.le (by omega), cur_grown_refl _ _⟩
  · have i1 : ¬ (n : Int) ≤ 1 := by omega
    go_wp2_with fail
    refine (cur_next_any b N zs cv _ H.out (by omega) HR.out).mono ?_; rintro e w1 ⟨x, rfl, hx, hc1, hg1⟩
    have HC1 := Lib.hid hc1
    have HG1 := Lib.hid hg1
    clear hc1 hg1
    by_cases h2 : 200 < n
    · have i2 : (200 : Int) < (n : Int) := by omega
      go_wp2_with fail
      refine (cur_next_any b (N + 1) zs cv _ HC1.out (by omega) HR.out).mono ?_; rintro e w2 ⟨y, rfl, hy, hc2, hg2⟩
      have HC2 := Lib.hid hc2
      have HG2 := Lib.hid (grown_trans0 HG1.out hg2)
      clear hc2 hg2
      have e1 : IntKind.i64.wrap ((x : Int) * 256) = (x : Int) * 256 := IntWalk.i64_in _ (by omega)
      have e2 : IntKind.i64.wrap ((x : Int) * 256 + (y : Int)) = (x : Int) * 256 + (y : Int) := IntWalk.i64_in _ (by omega)
      have i3 : (0 : Int) ≤ (x : Int) * 256 + (y : Int) := by omega
      go_wp2_with fail
      go_ret
      exact ⟨(x * 256 + y) % n, by push_cast; rfl, fun _ => Nat.mod_lt _ (by omega), Nat.lt_of_le_of_lt (Nat.mod_le _ _) (by omega), HC2.out, HG2.out⟩
    · have i2 : ¬ (200 : Int) < (n : Int) := by omega
      go_wp2_with fail
      go_ret
      exact ⟨x % n, by push_cast; rfl, fun _ => Nat.mod_lt _ (by omega), Nat.lt_of_le_of_lt (Nat.mod_le _ _) (by omega), HC1.out.le (by omega), HG1.out⟩
theorem rdI_low {w : World} {v : Value} {L : List Int} (h : RdI w v L) (h0 : 1 ≤ L.length) : ∃ b off cap, v = .slice (some ⟨b, off, none⟩) L.length cap ∧ b < w.heap.size ∧ L.length ≤ cap ∧ cap ≤ 9223372036854775807 ∧ ∀ j u, (L.map (Value.int .i64))[j]? = some u → w.cell? ⟨b, off + j, none⟩ = some u := by
  rcases h.2 with ⟨_, h1⟩ | h1
  · omega
  · exact h1
set_option maxHeartbeats 4000000 in
theorem cur_one_any (b N n : Nat) (zs : List Int) (cv : Value) (w : World) (h : Cur w b zs cv N) (hN : N + 2 ≤ 1000) (hn : n ≤ 65536) (hr : ∀ z ∈ zs, 0 ≤ z ∧ z ≤ 255) :
    Calls Try.prog 42 #[.pointer (some ⟨b, 0, none⟩), .int .i64 (n : Int)] w fun e w' => ∃ x : Bool, e = .returned (.bool x) ∧ Cur w' b zs cv (N + 2) ∧ w.grownBy w' (some b) := by
  have H := Lib.hid h
  have HR := Lib.hid hr
  clear h hr
  go_enter Try.func42, Try.ntmps42
  go_wp2_with fail
  refine (cur_pick_any b N n zs cv _ H.out hN hn HR.out).mono ?_; rintro e w1 ⟨x, rfl, _, _, hc1, hg1⟩
  have HC1 := Lib.hid hc1
  have HG1 := Lib.hid hg1
  clear hc1 hg1
  go_wp2_with fail
  go_ret
  exact ⟨_, rfl, HC1.out, HG1.out⟩
theorem num_grown {w w' : World} {v : Value} {L : List Int} {b : Nat} (h : RdI w v L) (hg : w.grownBy w' (some b)) (hn : ∀ g, v.ownBlock = some g → g ≠ b) : RdI w' v L := by
  refine ⟨h.1, ?_⟩
  rcases h.2 with h0 | ⟨g, off, cap, e, hb, h1, h2, hc⟩
  · exact .inl h0
  · refine .inr ⟨g, off, cap, e, Nat.lt_of_lt_of_le hb hg.size, h1, h2, fun j u hj => ?_⟩
    have hne : g ≠ b := hn g (by rw [e]; rfl)
    rw [World.cell?_of_block (w := w) (w' := w') (a := ⟨g, off + j, none⟩) (hg.block g hb (fun e2 => hne (by injection e2)))]
    exact hc j u hj
set_option maxHeartbeats 4000000 in
theorem cur_among_any (b N : Nat) (v : Value) (L : List Int) (zs : List Int) (cv : Value) (w : World) (h : Cur w b zs cv N) (hL : RdI w v L) (hne : 1 ≤ L.length) (hle : L.length ≤ 65536) (hoff : ∀ g, v.ownBlock = some g → g ≠ b) (hN : N + 2 ≤ 1000) (hr : ∀ z ∈ zs, 0 ≤ z ∧ z ≤ 255) :
    Calls Try.prog 37 #[.pointer (some ⟨b, 0, none⟩), v] w fun e w' => ∃ x : Int, e = .returned (.int .i64 x) ∧ x ∈ L ∧ Cur w' b zs cv (N + 2) ∧ w.grownBy w' (some b) := by
  have H := Lib.hid h
  have HR := Lib.hid hr
  have HL := Lib.hid hL
  obtain ⟨A, c, rfl, _⟩ := hL.form
  clear h hr hL
  go_enter Try.func37, Try.ntmps37
  go_wp2_with fail
  refine (cur_pick_any b N L.length zs cv _ H.out hN hle HR.out).mono ?_; rintro e w1 ⟨x, rfl, hx, _, hc1, hg1⟩
  have hxl := hx hne
  have HC1 := Lib.hid hc1
  have HG1 := Lib.hid hg1
  have HM := num_grown HL.out hg1 hoff
  obtain ⟨g, off, cap, e, hgw, _, _, hcell⟩ := rdI_low HM hne
  injection e with e1 e2 e3
  subst e1 e3
  have cx := hcell x (.int .i64 L[x]) (by simp [hxl])
  have i1 : (x : Int) < (L.length : Int) := by omega
  clear hc1 hg1 hx HM hcell
  go_wp2_with fail
  go_ret
  exact ⟨L[x], rfl, List.getElem_mem hxl, HC1.out, HG1.out⟩
end Go.Proofs.Yteimcfbliigjmaa
