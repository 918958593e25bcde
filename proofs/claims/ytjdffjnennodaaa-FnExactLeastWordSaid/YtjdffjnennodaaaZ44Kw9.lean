/- The code of a tableau in the reference. -/
import Derived.Test.YtjdffjnennodaaaZ43M
import Derived.Test.YtjdffjnennodaaaZ01M
import Derived.Test.YtjdffjnennodaaaZ11Brk
import Derived.BigRegion
import Derived.BigQuiet
import Derived.Deep.RegionLaw
namespace Go.Proofs.Ytjdffjnennodaaa
set_option linter.unusedSimpArgs false
set_option linter.unusedVariables false
set_option linter.unnecessarySimpa false
set_option maxRecDepth 200000
open Go.ChangeShapes Go.WideShapes Go.ChangeAt Go.RowKit Go.Maps

/-- The code of the first images. -/
def codTo (x : TT) : Nat → Nat
  | 0 => 0
  | q + 1 => 32 * (32 * codTo x q + cP (gd x.1 q)) + cP (gd x.2 q)
theorem codTo_eq {n : Nat} (h1 : 1 ≤ n) (h2 : n ≤ 2) (x : TT) : codTo x n = codeT n x := by
  rcases (show n = 1 ∨ n = 2 by omega) with rfl | rfl
  · unfold codeT; rw [if_pos rfl]; simp [codTo]
  · unfold codeT; rw [if_neg (by decide)]; simp [codTo]
theorem cod_lt {x : TT} (h : ∀ i, Im4 (gd x.1 i) ∧ Im4 (gd x.2 i)) : ∀ q, codTo x q < 1024 ^ q
  | 0 => by simp [codTo]
  | q + 1 => by
    have ih := cod_lt h q
    have a := (h q).1.code
    have b := (h q).2.code
    unfold codTo
    rw [Nat.pow_succ]; omega
theorem or_add (a b k : Nat) (h : b < 2 ^ k) : 2 ^ k * a ||| b = 2 ^ k * a + b := (Nat.two_pow_add_eq_or_of_lt h a).symm
theorem code_or (m : Nat) (a : PN) (h : Im4 a) : ((32 * m ||| (8 * a.p)) ||| 4 * a.x) ||| a.z = 32 * m + cP a := by
  have h1 := h.p; have h2 := h.x; have h3 := h.z
  have e0 : 32 * m ||| (8 * a.p) = 32 * m + 8 * a.p := or_add m (8 * a.p) 5 (by omega)
  have e1 : 32 * m + 8 * a.p = 2 ^ 4 * (2 * m + a.p / 2) := by omega
  have e2 : (2 ^ 4 * (2 * m + a.p / 2)) ||| 4 * a.x = 2 ^ 4 * (2 * m + a.p / 2) + 4 * a.x := or_add _ _ 4 (by omega)
  have e3 : 2 ^ 4 * (2 * m + a.p / 2) + 4 * a.x = 2 ^ 2 * (8 * m + 2 * a.p + a.x) := by omega
  have e4 : (2 ^ 2 * (8 * m + 2 * a.p + a.x)) ||| a.z = 2 ^ 2 * (8 * m + 2 * a.p + a.x) + a.z := or_add _ _ 2 (by omega)
  rw [e0, e1, e2, e3, e4]; unfold cP; omega
theorem pes_gd (L : List PN) (q : Nat) : (pes L).getD q ⟨0, 0, 0⟩ = ⟨((gd L q).p : Int), ((gd L q).x : Int), ((gd L q).z : Int)⟩ := by
  unfold pes gd
  by_cases h : q < L.length
  · simp [List.getD, h]
    rfl
  · simp [List.getD, h]
theorem code_bits (c : Nat) (a : PN) (h : Im4 a) (hc : c < 1048576) : bits .or .i64 (bits .or .i64 (bits .or .i64 ((c : Int) * 32) (bits .and .i64 (wrap64 ((a.p : Int) * 8)) 16)) (wrap64 ((a.x : Int) * 4))) (a.z : Int) = ((32 * c + cP a : Nat) : Int) := by
  have h1 := h.p; have h2 := h.x; have h3 := h.z
  rw [← code_or c a h]
  have o1 : 32 * c ||| 8 * a.p < 9223372036854775808 := Nat.or_lt_two_pow (n := 63) (by omega) (by omega)
  have o2 : (32 * c ||| 8 * a.p) ||| 4 * a.x < 9223372036854775808 := Nat.or_lt_two_pow (n := 63) o1 (by omega)
  have e1 : bits .and .i64 (wrap64 ((a.p : Int) * 8)) 16 = ((8 * a.p : Nat) : Int) := by
    rcases h1 with h | h <;> rw [h] <;> kernel_rfl
  have e2 : wrap64 ((a.x : Int) * 4) = ((4 * a.x : Nat) : Int) := by
    unfold wrap64
    omega
  have e3 : ((c : Int) * 32) = ((32 * c : Nat) : Int) := by omega
  rw [e1, e2, e3, bits_or _ _ (by omega) (by omega), bits_or _ _ o1 (by omega), bits_or _ _ o2 (by omega)]
set_option maxHeartbeats 16000000 in
theorem spec_l8Code_rd (n : Nat) (h1 : 1 ≤ n) (h2 : n ≤ 2) (x : TT) (hx : SymT n x) (v0 v1 : Value) (w : World) (r0 : RdE w v0 E3.cs 3 (pes x.1)) (r1 : RdE w v1 E3.cs 3 (pes x.2)) :
    Calls Try.prog 29 #[.agg #[.int .i64 (n : Int), v0, v1]] w fun e w' => e = .returned (.int .i64 (codeT n x : Int)) ∧ Below w.heap.size w w' := by
  have lx : (pes x.1).length = n := by rw [pes_len]; exact hx.lx
  have lz : (pes x.2).length = n := by rw [pes_len]; exact hx.lz
  obtain ⟨A, cA, rfl, HA⟩ := gate_at r0
  obtain ⟨A2, cB, rfl, HB⟩ := gate_at r1
  have HI := Lib.hid (fun i => sym_im h2 hx i)
  rw [← codTo_eq h1 h2]
  rw [lx] at HA ⊢
  rw [lz] at HB ⊢
  clear r0 r1 hx
  have X := Lib.hid ((Sb.nil w).push [.int .i64 (n : Int), .slice A n cA, .slice A2 n cB] 30 rfl)
  go_enter Try.func29, Try.ntmps29
  go_wp2_with fail
  go_loopw [3, 4] (fun s3 s4 wr => ∃ q : Nat, q ≤ n ∧ s3 = .int .i64 (codTo x q : Int) ∧ s4 = .int .i64 (q : Int) ∧ Hid (Sb w.heap.size w wr [(w.heap.size, [.int .i64 (n : Int), .slice A n cA, .slice A2 n cB])])) (fun _ s4 _ => n - (intOf s4).toNat)
  case atStart => exact ⟨0, Nat.zero_le _, rfl, rfl, X⟩
  case round =>
    clear X
    obtain ⟨q, hq, rfl, rfl, X⟩ := hrel
    obtain ⟨⟨t0, t1, t2⟩, -⟩ := X.out.head.c3
    by_cases hlt : q < n
    · have i1 : (q : Int) < (n : Int) := by omega
      obtain ⟨b0, o0, rfl, hb0, a0, a1, a2⟩ := HA.out q hlt
      obtain ⟨b2, o2, rfl, hb2, d0, d1, d2⟩ := HB.out q hlt
      rw [pes_gd] at a0 a1 a2 d0 d1 d2
      dsimp only at a0 a1 a2 d0 d1 d2
      have HC := Lib.hid (show codTo x (q + 1) = 32 * (32 * codTo x q + cP (gd x.1 q)) + cP (gd x.2 q) from rfl)
      have HA4 := Lib.hid (HI.out q).1
      have HB4 := Lib.hid (HI.out q).2
      have hm : codTo x q < 1024 := by
        have h9 := cod_lt HI.out q
        have h8 : 1024 ^ q ≤ 1024 ^ 1 := Nat.pow_le_pow_right (by decide) (by omega)
        omega
      generalize gd x.1 q = a at *
      generalize gd x.2 q = b at *
      generalize codTo x q = m at *
      replace a0 := (X.out.bel.cell hb0).trans a0; replace a1 := (X.out.bel.cell hb0).trans a1; replace a2 := (X.out.bel.cell hb0).trans a2
      replace d0 := (X.out.bel.cell hb2).trans d0; replace d1 := (X.out.bel.cell hb2).trans d1; replace d2 := (X.out.bel.cell hb2).trans d2
      go_wp2_with fail
      replace X := Lib.hid X.out.drew
      refine AnyB.begin (S := (fun w' => w'.cell? ⟨w.heap.size, 1, none⟩ = some (.slice (some ⟨b0, o0, none⟩) n cA) ∧ w'.cell? ⟨w.heap.size, 2, none⟩ = some (.slice (some ⟨b2, o2, none⟩) n cB) ∧ w'.cell? ⟨b0, o0 + q * 3, none⟩ = some (.int .i64 (a.p : Int)) ∧ w'.cell? ⟨b0, o0 + q * 3 + 1, none⟩ = some (.int .i64 (a.x : Int)) ∧ w'.cell? ⟨b0, o0 + q * 3 + 2, none⟩ = some (.int .i64 (a.z : Int)) ∧ w'.cell? ⟨b2, o2 + q * 3, none⟩ = some (.int .i64 (b.p : Int)) ∧ w'.cell? ⟨b2, o2 + q * 3 + 1, none⟩ = some (.int .i64 (b.x : Int)) ∧ w'.cell? ⟨b2, o2 + q * 3 + 2, none⟩ = some (.int .i64 (b.z : Int)))) [10] (by kernel_rfl) ?_ (fun hHeld0 => ?_)
      · ((try dsimp only); (exact ⟨t1, t2, a0, a1, a2, d0, d1, d2⟩))
      refine AnyB.takeQ (i := 0) (oi := _) (v := ?_) (by simp only [List.getElem?_toArray, List.getElem?_cons_zero, List.getElem?_cons_succ]; rfl) (by kernel_rfl) (by kernel_rfl) (by kernel_rfl) (by intro _ _ _ h; exact h) (Or.inl ⟨by rfl, ?_⟩) ?_
      rotate_left
      · (intro w hSw; (try dsimp only at hSw); go_simp; (try (with_reducible rfl)))
      try simp only [Act.put, List.setIfInBounds_toArray, List.set_cons_zero, List.set_cons_succ]
      refine AnyB.take (i := 1) (oi := _) (v := ?_) (by simp only [List.getElem?_toArray, List.getElem?_cons_zero, List.getElem?_cons_succ]; rfl) (by kernel_rfl) (by kernel_rfl) (by kernel_rfl) (by kernel_rfl) (by kernel_rfl) (by intro _ _ _ h; exact h) (Or.inl ⟨by rfl, ?_⟩) (by assumption) ?_
      rotate_left
      · (intro w hSw; (try dsimp only at hSw); go_simp; (try (with_reducible rfl)))
      try simp only [Act.put, List.setIfInBounds_toArray, List.set_cons_zero, List.set_cons_succ]
      refine AnyB.takeQ (i := 2) (oi := _) (v := ?_) (by simp only [List.getElem?_toArray, List.getElem?_cons_zero, List.getElem?_cons_succ]; rfl) (by kernel_rfl) (by kernel_rfl) (by kernel_rfl) (by intro _ _ _ h; exact h) (Or.inl ⟨by rfl, ?_⟩) ?_
      rotate_left
      · (intro w hSw; (try dsimp only at hSw); go_simp; (try (with_reducible rfl)))
      try simp only [Act.put, List.setIfInBounds_toArray, List.set_cons_zero, List.set_cons_succ]
      refine AnyB.takeQ (i := 3) (oi := _) (v := ?_) (by simp only [List.getElem?_toArray, List.getElem?_cons_zero, List.getElem?_cons_succ]; rfl) (by kernel_rfl) (by kernel_rfl) (by kernel_rfl) (by intro _ _ _ h; exact h) (Or.inl ⟨by rfl, ?_⟩) ?_
      rotate_left
      · (intro w hSw; (try dsimp only at hSw); go_simp; (try (with_reducible rfl)))
      try simp only [Act.put, List.setIfInBounds_toArray, List.set_cons_zero, List.set_cons_succ]
      refine AnyB.take (i := 4) (oi := _) (v := ?_) (by simp only [List.getElem?_toArray, List.getElem?_cons_zero, List.getElem?_cons_succ]; rfl) (by kernel_rfl) (by kernel_rfl) (by kernel_rfl) (by kernel_rfl) (by kernel_rfl) (by intro _ _ _ h; exact h) (Or.inl ⟨by rfl, ?_⟩) (by assumption) ?_
      rotate_left
      · (intro w hSw; (try dsimp only at hSw); go_simp; (try (with_reducible rfl)))
      try simp only [Act.put, List.setIfInBounds_toArray, List.set_cons_zero, List.set_cons_succ]
      refine AnyB.takeQ (i := 5) (oi := _) (v := ?_) (by simp only [List.getElem?_toArray, List.getElem?_cons_zero, List.getElem?_cons_succ]; rfl) (by kernel_rfl) (by kernel_rfl) (by kernel_rfl) (by intro _ _ _ h; exact h) (Or.inl ⟨by rfl, ?_⟩) ?_
      rotate_left
      · (intro w hSw; (try dsimp only at hSw); go_simp; (try (with_reducible rfl)))
      try simp only [Act.put, List.setIfInBounds_toArray, List.set_cons_zero, List.set_cons_succ]
      refine AnyB.take (i := 6) (oi := _) (v := ?_) (by simp only [List.getElem?_toArray, List.getElem?_cons_zero, List.getElem?_cons_succ]; rfl) (by kernel_rfl) (by kernel_rfl) (by kernel_rfl) (by kernel_rfl) (by kernel_rfl) (by intro _ _ _ h; exact h) (Or.inl ⟨by rfl, ?_⟩) (by assumption) ?_
      rotate_left
      · (intro w hSw; (try dsimp only at hSw); go_simp; (try (with_reducible rfl)))
      try simp only [Act.put, List.setIfInBounds_toArray, List.set_cons_zero, List.set_cons_succ]
      refine AnyB.takeQ (i := 7) (oi := _) (v := ?_) (by simp only [List.getElem?_toArray, List.getElem?_cons_zero, List.getElem?_cons_succ]; rfl) (by kernel_rfl) (by kernel_rfl) (by kernel_rfl) (by intro _ _ _ h; exact h) (Or.inl ⟨by rfl, ?_⟩) ?_
      rotate_left
      · (intro w hSw; (try dsimp only at hSw); go_simp; (try (with_reducible rfl)))
      try simp only [Act.put, List.setIfInBounds_toArray, List.set_cons_zero, List.set_cons_succ]
      refine AnyB.takeQ (i := 8) (oi := _) (v := ?_) (by simp only [List.getElem?_toArray, List.getElem?_cons_zero, List.getElem?_cons_succ]; rfl) (by kernel_rfl) (by kernel_rfl) (by kernel_rfl) (by intro _ _ _ h; exact h) (Or.inl ⟨by rfl, ?_⟩) ?_
      rotate_left
      · (intro w hSw; (try dsimp only at hSw); go_simp; (try (with_reducible rfl)))
      try simp only [Act.put, List.setIfInBounds_toArray, List.set_cons_zero, List.set_cons_succ]
      refine AnyB.take (i := 9) (oi := _) (v := ?_) (by simp only [List.getElem?_toArray, List.getElem?_cons_zero, List.getElem?_cons_succ]; rfl) (by kernel_rfl) (by kernel_rfl) (by kernel_rfl) (by kernel_rfl) (by kernel_rfl) (by intro _ _ _ h; exact h) (Or.inl ⟨by rfl, ?_⟩) (by assumption) ?_
      rotate_left
      · (intro w hSw; (try dsimp only at hSw); go_simp; (try (with_reducible rfl)))
      try simp only [Act.put, List.setIfInBounds_toArray, List.set_cons_zero, List.set_cons_succ]
      refine AnyB.takeQ (i := 12) (oi := _) (v := ?_) (by simp only [List.getElem?_toArray, List.getElem?_cons_zero, List.getElem?_cons_succ]; rfl) (by kernel_rfl) (by kernel_rfl) (by kernel_rfl) (by intro _ _ _ h; exact h) (Or.inl ⟨by rfl, ?_⟩) ?_
      rotate_left
      · (intro w hSw; (try dsimp only at hSw); go_simp; (try (with_reducible rfl)))
      try simp only [Act.put, List.setIfInBounds_toArray, List.set_cons_zero, List.set_cons_succ]
      refine AnyB.each (rs := [10]) (by kernel_rfl) (by simp) ?_
      refine EachB.cons rfl (fun K hK hB => ?_) ?_
      · skip
        (go_simp; obtain ⟨gR, hgR⟩ : ∃ g, wr.heap.size = g := ⟨_, rfl⟩; replace X := Lib.hid (X.out.push [.int .i64 (a.p : Int), .int .i64 (a.x : Int), .int .i64 (a.z : Int), .int .i64 (b.p : Int), .int .i64 (b.x : Int), .int .i64 (b.z : Int)] 62 (g := gR) hgR); rw [hgR])
        refine hB.out _ _ rfl ?_
        clear hB hK K
        refine AnyB.takeQ (i := 11) (oi := _) (v := ?_) (by simp only [List.getElem?_toArray, List.getElem?_cons_zero, List.getElem?_cons_succ]; rfl) (by kernel_rfl) (by kernel_rfl) (by kernel_rfl) (by intro _ _ _ h; exact h) (Or.inl ⟨by rfl, ?_⟩) ?_
        rotate_left
        · (intro w hSw; (try dsimp only at hSw); go_simp; (try (with_reducible rfl)))
        try simp only [Act.put, List.setIfInBounds_toArray, List.set_cons_zero, List.set_cons_succ]
        refine AnyB.none (by kernel_rfl) ?_ _
        go_wp2_with fail
        replace X := Lib.hid (show Sb w.heap.size w ((wr.alloc (.cells #[.int .i64 (a.p : Int), .int .i64 (a.x : Int), .int .i64 (a.z : Int), .int .i64 (b.p : Int), .int .i64 (b.x : Int), .int .i64 (b.z : Int)] 62)).drew) _ from X.out)
        clear t0 t1 t2 a0 a1 a2 d0 d1 d2
        generalize ((wr.alloc (.cells #[.int .i64 (a.p : Int), .int .i64 (a.x : Int), .int .i64 (a.z : Int), .int .i64 (b.p : Int), .int .i64 (b.x : Int), .int .i64 (b.z : Int)] 62)).drew) = wz at *
        go_loopw [3, 25] (fun s3 s25 wy => ∃ j c : Nat, s25 = .int .i64 (j : Int) ∧ s3 = .int .i64 (c : Int) ∧ Hid ((j = 0 ∧ c = m) ∨ (j = 1 ∧ c = 32 * m + cP a) ∨ (j = 2 ∧ c = 32 * (32 * m + cP a) + cP b)) ∧ Hid (Sb w.heap.size w wy [(gR, [.int .i64 (a.p : Int), .int .i64 (a.x : Int), .int .i64 (a.z : Int), .int .i64 (b.p : Int), .int .i64 (b.x : Int), .int .i64 (b.z : Int)]), (w.heap.size, [.int .i64 (n : Int), .slice (some ⟨b0, o0, none⟩) n cA, .slice (some ⟨b2, o2, none⟩) n cB])])) (fun _ s25 _ => 2 - (intOf s25).toNat)
        case atStart => exact ⟨0, m, rfl, rfl, (show _ ∨ _ from .inl ⟨rfl, rfl⟩), X⟩
        case round =>
          clear X
          obtain ⟨j, c, rfl, rfl, hj, X⟩ := hrel
          have e0 := X.out.head.cs 0 _ rfl; have e1 := X.out.head.cs 1 _ rfl; have e2 := X.out.head.cs 2 _ rfl
          have e3 := X.out.head.cs 3 _ rfl; have e4 := X.out.head.cs 4 _ rfl; have e5 := X.out.head.cs 5 _ rfl
          have hA := HA4.out; have hB := HB4.out
          have hca := hA.code
          rcases hj.out with ⟨rfl, hc⟩ | ⟨rfl, hc⟩ | ⟨rfl, hc⟩
          · have hb : c < 1024 := by omega
            have HC1 := Lib.hid hc
            have HB1 := code_bits c a hA (by omega)
            clear hc hm hj e3 e4 e5
            go_wp2_with fail
            go_roundw
            case rel => exact ⟨1, 32 * c + cP a, rfl, by rw [show ((32 * c + cP a : Nat) : Int) = 32 * (c : Int) + (cP a : Int) from by omega], (show _ ∨ _ from .inr (.inl ⟨rfl, by rw [HC1.out]⟩)), X.out.alloc _⟩
            case measure => simp [intOf] <;> omega
          · have hb : c < 1048576 := by omega
            have HC1 := Lib.hid hc
            have HB1 := code_bits c b hB (by omega)
            clear hc hm hj e0 e1 e2
            go_wp2_with fail
            go_roundw
            case rel => exact ⟨2, 32 * c + cP b, rfl, by rw [show ((32 * c + cP b : Nat) : Int) = 32 * (c : Int) + (cP b : Int) from by omega], (show _ ∨ _ from .inr (.inr ⟨rfl, by rw [HC1.out]⟩)), X.out.alloc _⟩
            case measure => simp [intOf] <;> omega
          · have HC1 := Lib.hid hc
            clear hc hm hj e0 e1 e2 e3 e4 e5
            go_wp2_with fail
            go_roundw
            case rel => exact ⟨q + 1, by omega, by rw [HC.out, HC1.out], by go_num, X.out.tail⟩
            case measure => simp [intOf]; omega
      exact EachB.nil
    · have i1 : ¬ (q : Int) < (n : Int) := by omega
      obtain rfl : q = n := by omega
      have hB := X.out.bel
      go_wp2_with fail
      go_ret
      exact ⟨rfl, (by repeat (first | exact Below.refl _ _ | assumption | refine Below.drew ?_ | refine below_drewN ?_ _ | refine Below.alloc ?_ (by first | omega | (simp <;> omega)) _ | refine Below.setCell ?_ (by first | omega | (simp <;> omega)) _ | refine Below.trans ?_ (Below.mono (by assumption) (by first | omega | (simp <;> omega)))))⟩
theorem spec_l8Code_any (n : Nat) (h1 : 1 ≤ n) (h2 : n ≤ 2) (x : TT) (hx : SymT n x) (v0 v1 : Value) (w : World) (r : Tr w n x v0 v1) :
    Calls Try.prog 29 #[.agg #[.int .i64 (n : Int), v0, v1]] w fun e w' => e = .returned (.int .i64 (codeT n x : Int)) ∧ Below w.heap.size w w' :=
  spec_l8Code_rd n h1 h2 x hx v0 v1 w (r.rd hx).1 (r.rd hx).2
end Go.Proofs.Ytjdffjnennodaaa
