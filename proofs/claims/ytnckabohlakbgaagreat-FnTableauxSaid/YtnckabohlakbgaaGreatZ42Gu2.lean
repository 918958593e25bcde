/- The tableau of a gate in the reference. -/
import Derived.Test.YtnckabohlakbgaaGreatZ40M
import Derived.Test.YtnckabohlakbgaaGreatZ24M
import Derived.Test.YtnckabohlakbgaaGreatZ41Gu1
import Derived.Test.YtnckabohlakbgaaGreatZ07Pau4
import Derived.Test.YtnckabohlakbgaaGreatZ06Brk
import Derived.Deep.DeepCutAuto
namespace Go.Proofs.YtnckabohlakbgaaGreat
set_option linter.unusedSimpArgs false
set_option linter.unusedVariables false
set_option linter.unnecessarySimpa false
set_option maxRecDepth 200000
open Go.ChangeShapes Go.WideShapes Go.ChangeAt Go.RowKit

/-- What a product of two operators of one letter each answers. -/
def MulSays (p1 x1 z1 p2 x2 z2 p x z : Int) : Prop := ∀ w : World, Calls Tryz.prog 75 #[.agg #[.int .i64 p1, .int .i64 x1, .int .i64 z1], .agg #[.int .i64 p2, .int .i64 x2, .int .i64 z2]] w fun e w' => e = .returned (.agg #[.int .i64 p, .int .i64 x, .int .i64 z]) ∧ Below w.heap.size w w'
theorem mul_says {u v r : PN} (hu : PNok u) (hv : PNok v) (h : mulN u v = r) : MulSays (u.p : Int) (u.x : Int) (u.z : Int) (v.p : Int) (v.x : Int) (v.z : Int) (r.p : Int) (r.x : Int) (r.z : Int) := by
  intro w
  have := spec_l7Mul_any u v w hu hv
  rw [h] at this
  exact this
theorem mul_all : ∀ a : Nat, a < 5 → ∀ b : Nat, b < 5 → a ≠ b → mulN ⟨0, 2 ^ a, 0⟩ ⟨0, 2 ^ b, 0⟩ = ⟨0, 2 ^ a ||| 2 ^ b, 0⟩ ∧ mulN ⟨0, 0, 2 ^ a⟩ ⟨0, 0, 2 ^ b⟩ = ⟨0, 0, 2 ^ a ||| 2 ^ b⟩ ∧ mulN ⟨0, 2 ^ a, 0⟩ ⟨0, 0, 2 ^ b⟩ = ⟨0, 2 ^ a, 2 ^ b⟩ ∧ mulN ⟨0, 0, 2 ^ a⟩ ⟨0, 2 ^ b, 0⟩ = ⟨0, 2 ^ b, 2 ^ a⟩ := by decide +kernel
theorem mul_pow {a b xA xB : Nat} (ha : a < 5) (hb : b < 5) (hab : a ≠ b) (hA : xA = 2 ^ a) (hB : xB = 2 ^ b) :
    MulSays 0 (xA : Int) 0 0 (xB : Int) 0 0 ((xA ||| xB : Nat) : Int) 0 ∧ MulSays 0 0 (xA : Int) 0 0 (xB : Int) 0 0 ((xA ||| xB : Nat) : Int) ∧ MulSays 0 (xA : Int) 0 0 0 (xB : Int) 0 (xA : Int) (xB : Int) ∧ MulSays 0 0 (xA : Int) 0 (xB : Int) 0 0 (xB : Int) (xA : Int) := by
  subst hA hB
  have pa : 2 ^ a ≤ 2 ^ 4 := Nat.pow_le_pow_right (by omega) (by omega)
  have pb : 2 ^ b ≤ 2 ^ 4 := Nat.pow_le_pow_right (by omega) (by omega)
  obtain ⟨h1, h2, h3, h4⟩ := mul_all a ha b hb hab
  exact ⟨mul_says (u := ⟨0, 2 ^ a, 0⟩) (v := ⟨0, 2 ^ b, 0⟩) ⟨by dsimp only; omega, by dsimp only; omega, by dsimp only; omega⟩ ⟨by dsimp only; omega, by dsimp only; omega, by dsimp only; omega⟩ h1,
    mul_says (u := ⟨0, 0, 2 ^ a⟩) (v := ⟨0, 0, 2 ^ b⟩) ⟨by dsimp only; omega, by dsimp only; omega, by dsimp only; omega⟩ ⟨by dsimp only; omega, by dsimp only; omega, by dsimp only; omega⟩ h2,
    mul_says (u := ⟨0, 2 ^ a, 0⟩) (v := ⟨0, 0, 2 ^ b⟩) ⟨by dsimp only; omega, by dsimp only; omega, by dsimp only; omega⟩ ⟨by dsimp only; omega, by dsimp only; omega, by dsimp only; omega⟩ h3,
    mul_says (u := ⟨0, 0, 2 ^ a⟩) (v := ⟨0, 2 ^ b, 0⟩) ⟨by dsimp only; omega, by dsimp only; omega, by dsimp only; omega⟩ ⟨by dsimp only; omega, by dsimp only; omega, by dsimp only; omega⟩ h4⟩

set_option maxHeartbeats 64000000 in
theorem spec_l7Gate_any (n k a b : Nat) (w : World) (hk : GtOk n k a b) (n1 : 1 ≤ n) (n5 : n ≤ 5) :
    Calls Tryz.prog 68 #[.int .i64 (n : Int), .agg #[.int .i64 (k : Int), .int .i64 (a : Int), .int .i64 (b : Int)]] w (GPost n w (pes (gtX n k a b)) (pes (gtZ n k a b))) := by
  have ha := hk.la; have hb := hk.lb
  have HK := Lib.hid hk; clear hk
  go_enter Tryz.func68, Tryz.ntmps68
  go_wp2_with fail
  refine (spec_l7Identity_any (n : Int) _ (by omega) (by omega)).mono ?_; rintro e w1 ⟨q0, q1, rfl, ho0, ho1, hap, hb1⟩
  rw [Int.toNat_natCast] at ho0 ho1
  obtain ⟨g0, p0, rfl, hg0, hg0'⟩ := own_E3 ho0 (idX_len n) (by omega)
  obtain ⟨g1, p1, rfl, hg1, hg1'⟩ := own_E3 ho1 (idZ_len n) (by omega)
  have h01 : g0 ≠ g1 := fun e => hap g0 rfl (by rw [e]; rfl)
  (simp at hg0 hg1)
  have z1 := hb1.size; (simp at z1)
  have bP := ((Box3.new w (.int .i64 (k : Int)) (.int .i64 (a : Int)) (.int .i64 (b : Int)) 66).alloc (.cells #[.int .i64 0, .slice none 0 0, .slice none 0 0] 29)).call hb1
  have bR : Box3 w1 (w.heap.size + 1) (.int .i64 0) (.slice none 0 0) (.slice none 0 0) := by
    have h := (Box3.new (w.alloc (.cells #[.int .i64 (k : Int), .int .i64 (a : Int), .int .i64 (b : Int)] 66)) (.int .i64 0) (.slice none 0 0) (.slice none 0 0) 29).call hb1
    simpa using h
  have bw := Lib.hid (show Below w.heap.size w w1 from belo)
  have O0 := OwnG.of (OwnE.le ho0 (base' := w.heap.size + 2) (by simp)) (idX_len n); have O1 := OwnG.of (OwnE.le ho1 (base' := w.heap.size + 2) (by simp)) (idZ_len n)
  clear ho0 ho1 hap
  have G : GSt w (w1.alloc (.cells #[.int .i64 (n : Int), .slice (some ⟨g0, 0, none⟩) n p0, .slice (some ⟨g1, 0, none⟩) n p1] 29)) w.heap.size n k a b w1.heap.size g0 p0 g1 p1 (idX n) (idZ n) :=
    have f := Far.alloc w1 (.cells #[.int .i64 (n : Int), .slice (some ⟨g0, 0, none⟩) n p0, .slice (some ⟨g1, 0, none⟩) n p1] 29)
    ⟨bP.alloc _, bR.alloc _, Box3.new w1 _ _ _ _, O0.farF f (by omega), O1.farF f (by omega), Below.alloc bw.out (by omega) _, ⟨h01, by omega, by omega⟩, by omega⟩
  clear bP bR bw O0 O1 hb1 hg0 hg0' hg1 hg1' z1
  obtain ⟨xA, hxA⟩ : ∃ x : Nat, x = 2 ^ a := ⟨_, rfl⟩
  obtain ⟨xB, hxB⟩ : ∃ x : Nat, x = 2 ^ b := ⟨_, rfl⟩
  have hpa : (2 : Int) ^ a = (xA : Int) := by rw [hxA]; simp
  have hpb : (2 : Int) ^ b = (xB : Int) := by rw [hxB]; simp
  have sA : xA ≤ 32 := by rw [hxA]; exact Nat.pow_le_pow_right (n := 2) (by omega) (show a ≤ 5 by omega)
  have sB : xB ≤ 32 := by rw [hxB]; exact Nat.pow_le_pow_right (n := 2) (by omega) (show b ≤ 5 by omega)
  have HA := Lib.hid hxA; have HB := Lib.hid hxB; clear hxA hxB
  have hwa : IntKind.i64.wrap (xA : Int) = (xA : Int) := IntWalk.i64_in _ (by omega)
  have hwb : IntKind.i64.wrap (xB : Int) = (xB : Int) := IntWalk.i64_in _ (by omega)
  have hw3 : IntKind.i64.wrap 1 = 1 := IntWalk.i64_in _ (by omega)
  have hua : IntKind.u64.wrap (a : Int) = (a : Int) := IntWalk.u64_in _ (by omega)
  have hub : IntKind.u64.wrap (b : Int) = (b : Int) := IntWalk.u64_in _ (by omega)
  have hma : min a 64 = a := by omega
  have hmb : min b 64 = b := by omega
  have j1 : (a : Int) < (n : Int) := by omega
  have j2 : (0 : Int) ≤ (a : Int) := by omega
  have j3 : (b : Int) < (n : Int) := by omega
  have j4 : (0 : Int) ≤ (b : Int) := by omega
  go_upto_region 2 with fail
  generalize w1.alloc (.cells #[.int .i64 (n : Int), .slice (some ⟨g0, 0, none⟩) n p0, .slice (some ⟨g1, 0, none⟩) n p1] 29) = W at *
  generalize w1.heap.size = gT at *
  replace G := G.drew
  go_cut [6, 7] (fun s6 s7 wx => ∃ g6 g7 : Nat, s6 = .pointer (some ⟨g6, 0, none⟩) ∧ s7 = .pointer (some ⟨g7, 0, none⟩) ∧ Box3 wx g6 (.int .i64 0) (.int .i64 (xA : Int)) (.int .i64 0) ∧ Box3 wx g7 (.int .i64 0) (.int .i64 0) (.int .i64 (xA : Int)) ∧ Off w.heap.size gT g0 g1 g6 ∧ Off w.heap.size gT g0 g1 g7 ∧ GSt w wx w.heap.size n k a b gT g0 p0 g1 p1 (idX n) (idZ n))
  case first =>
    refine AnyB.begin (S := (fun w' => w'.cell? ⟨w.heap.size, 1, none⟩ = some (.int .i64 (a : Int)))) [] (by kernel_rfl) ?_ (fun hHeld0 => ?_)
    · ((try dsimp only); (first | exact G.P.c1))
    refine AnyB.tq (i := 0) (h := ?_)
    refine AnyB.tk (i := 1) (h := ?_)
    refine AnyB.tq (i := 2) (h := ?_)
    refine AnyB.tq (i := 3) (h := ?_)
    refine AnyB.tq (i := 4) (h := ?_)
    refine AnyB.tq (i := 5) (h := ?_)
    refine AnyB.tk (i := 6) (h := ?_)
    refine AnyB.tq (i := 7) (h := ?_)
    refine AnyB.tq (i := 8) (h := ?_)
    refine AnyB.tq (i := 9) (h := ?_)
    refine AnyB.each (rs := [10, 11]) (by kernel_rfl) (by simp) ?_
    refine EachB.cons rfl (fun K hK hB => ?_) ?_
    · skip
      ((try (have P0 : GSt w W.drew w.heap.size n k a b gT g0 p0 g1 p1 (idX n) (idZ n) := G; clear P0; generalize W.drew = wz at *)); go_simp; have N6 := Box3.new wz (.int .i64 0) (.int .i64 0) (.int .i64 0) 33; have F6 := G.off (Nat.le_refl _); (try (have eN : wz.heap.size ≠ g7 := Nat.ne_of_gt N7.lt; replace N7 := N7.alloc (.cells #[.int .i64 0, .int .i64 0, .int .i64 0] 33))); replace G := G.alloc (.cells #[.int .i64 0, .int .i64 0, .int .i64 0] 33); generalize wz.alloc (.cells #[.int .i64 0, .int .i64 0, .int .i64 0] 33) = wC at *; generalize wz.heap.size = g6 at *; obtain ⟨wz, rfl⟩ : ∃ x : World, x = wC := ⟨_, rfl⟩)
      refine hK.out _ _ ?_ (fun hHeld1 => ?_)
      · ((try dsimp only); (first | exact G.P.c1))
      clear hB hK K hHeld0
      refine AnyB.each (rs := [11]) (by kernel_rfl) (by simp) ?_
      refine EachB.cons rfl (fun K hK hB => ?_) ?_
      · skip
        ((try (have P0 : GSt w W.drew w.heap.size n k a b gT g0 p0 g1 p1 (idX n) (idZ n) := G; clear P0; generalize W.drew = wz at *)); go_simp; have N7 := Box3.new wz (.int .i64 0) (.int .i64 0) (.int .i64 0) 33; have F7 := G.off (Nat.le_refl _); (try (have eN : g6 ≠ wz.heap.size := Nat.ne_of_lt N6.lt; replace N6 := N6.alloc (.cells #[.int .i64 0, .int .i64 0, .int .i64 0] 33))); replace G := G.alloc (.cells #[.int .i64 0, .int .i64 0, .int .i64 0] 33); generalize wz.alloc (.cells #[.int .i64 0, .int .i64 0, .int .i64 0] 33) = wC at *; generalize wz.heap.size = g7 at *; obtain ⟨wz, rfl⟩ : ∃ x : World, x = wC := ⟨_, rfl⟩)
        refine hK.out _ _ ?_ (fun hHeld2 => ?_)
        · ((try dsimp only); (first | exact G.P.c1))
        clear hB hK K hHeld1
        refine AnyB.each (rs := [12]) (by kernel_rfl) (by simp) ?_
        refine EachB.cons rfl (fun K hK hB => ?_) ?_
        · skip
          ((try (have P0 : GSt w W.drew w.heap.size n k a b gT g0 p0 g1 p1 (idX n) (idZ n) := G; clear P0; generalize W.drew = wz at *)); have C0 := N6.c0; have C1 := N6.c1; have C2 := N6.c2; have D0 := N6.f0; have D1 := N6.f1; have D2 := N6.f2; go_simp; clear C0 C1 C2 D0 D1 D2; have kf := Far.set3 wz g6 (.int .i64 0) (.int .i64 (xA : Int)) (.int .i64 0); replace N6 := N6.set (.int .i64 0) (.int .i64 (xA : Int)) (.int .i64 0); (try replace N7 := N7.far kf eN.symm); replace G := G.box F6 (.int .i64 0) (.int .i64 (xA : Int)) (.int .i64 0); clear kf; rw [show (((wz.setCell ⟨g6, 0, none⟩ (.int .i64 0)).setCell ⟨g6, 1, none⟩ (.int .i64 (xA : Int))).setCell ⟨g6, 2, none⟩ (.int .i64 0)) = set3 wz g6 (.int .i64 0) (.int .i64 (xA : Int)) (.int .i64 0) from rfl]; generalize set3 wz g6 (.int .i64 0) (.int .i64 (xA : Int)) (.int .i64 0) = wC at *; obtain ⟨wz, rfl⟩ : ∃ x : World, x = wC := ⟨_, rfl⟩)
          refine hK.out _ _ ?_ (fun hHeld3 => ?_)
          · ((try dsimp only); (first | exact G.P.c1))
          clear hB hK K hHeld2
          refine AnyB.each (rs := [13]) (by kernel_rfl) (by simp) ?_
          refine EachB.cons rfl (fun K hK hB => ?_) ?_
          · skip
            ((try (have P0 : GSt w W.drew w.heap.size n k a b gT g0 p0 g1 p1 (idX n) (idZ n) := G; clear P0; generalize W.drew = wz at *)); have C0 := N7.c0; have C1 := N7.c1; have C2 := N7.c2; have D0 := N7.f0; have D1 := N7.f1; have D2 := N7.f2; go_simp; clear C0 C1 C2 D0 D1 D2; have kf := Far.set3 wz g7 (.int .i64 0) (.int .i64 0) (.int .i64 (xA : Int)); replace N7 := N7.set (.int .i64 0) (.int .i64 0) (.int .i64 (xA : Int)); (try replace N6 := N6.far kf eN); replace G := G.box F7 (.int .i64 0) (.int .i64 0) (.int .i64 (xA : Int)); clear kf; rw [show (((wz.setCell ⟨g7, 0, none⟩ (.int .i64 0)).setCell ⟨g7, 1, none⟩ (.int .i64 0)).setCell ⟨g7, 2, none⟩ (.int .i64 (xA : Int))) = set3 wz g7 (.int .i64 0) (.int .i64 0) (.int .i64 (xA : Int)) from rfl]; generalize set3 wz g7 (.int .i64 0) (.int .i64 0) (.int .i64 (xA : Int)) = wC at *; obtain ⟨wz, rfl⟩ : ∃ x : World, x = wC := ⟨_, rfl⟩)
            refine hK.out _ _ ?_ (fun hHeld4 => ?_)
            · ((try dsimp only); (first | exact G.P.c1))
            clear hB hK K hHeld3
            refine AnyB.none (by kernel_rfl) ?_ _
            go_wp2_with fail
            go_meet
            exact ⟨g6, g7, rfl, rfl, N6, N7, F6, F7, G⟩
          exact EachB.nil
        exact EachB.nil
      exact EachB.nil
    refine EachB.cons rfl (fun K hK hB => ?_) ?_
    · skip
      ((try (have P0 : GSt w W.drew w.heap.size n k a b gT g0 p0 g1 p1 (idX n) (idZ n) := G; clear P0; generalize W.drew = wz at *)); go_simp; have N7 := Box3.new wz (.int .i64 0) (.int .i64 0) (.int .i64 0) 33; have F7 := G.off (Nat.le_refl _); (try (have eN : g6 ≠ wz.heap.size := Nat.ne_of_lt N6.lt; replace N6 := N6.alloc (.cells #[.int .i64 0, .int .i64 0, .int .i64 0] 33))); replace G := G.alloc (.cells #[.int .i64 0, .int .i64 0, .int .i64 0] 33); generalize wz.alloc (.cells #[.int .i64 0, .int .i64 0, .int .i64 0] 33) = wC at *; generalize wz.heap.size = g7 at *; obtain ⟨wz, rfl⟩ : ∃ x : World, x = wC := ⟨_, rfl⟩)
      refine hK.out _ _ ?_ (fun hHeld5 => ?_)
      · ((try dsimp only); (first | exact G.P.c1))
      clear hB hK K hHeld0
      refine AnyB.each (rs := [10]) (by kernel_rfl) (by simp) ?_
      refine EachB.cons rfl (fun K hK hB => ?_) ?_
      · skip
        ((try (have P0 : GSt w W.drew w.heap.size n k a b gT g0 p0 g1 p1 (idX n) (idZ n) := G; clear P0; generalize W.drew = wz at *)); go_simp; have N6 := Box3.new wz (.int .i64 0) (.int .i64 0) (.int .i64 0) 33; have F6 := G.off (Nat.le_refl _); (try (have eN : wz.heap.size ≠ g7 := Nat.ne_of_gt N7.lt; replace N7 := N7.alloc (.cells #[.int .i64 0, .int .i64 0, .int .i64 0] 33))); replace G := G.alloc (.cells #[.int .i64 0, .int .i64 0, .int .i64 0] 33); generalize wz.alloc (.cells #[.int .i64 0, .int .i64 0, .int .i64 0] 33) = wC at *; generalize wz.heap.size = g6 at *; obtain ⟨wz, rfl⟩ : ∃ x : World, x = wC := ⟨_, rfl⟩)
        refine hK.out _ _ ?_ (fun hHeld6 => ?_)
        · ((try dsimp only); (first | exact G.P.c1))
        clear hB hK K hHeld5
        refine AnyB.each (rs := [12]) (by kernel_rfl) (by simp) ?_
        refine EachB.cons rfl (fun K hK hB => ?_) ?_
        · skip
          ((try (have P0 : GSt w W.drew w.heap.size n k a b gT g0 p0 g1 p1 (idX n) (idZ n) := G; clear P0; generalize W.drew = wz at *)); have C0 := N6.c0; have C1 := N6.c1; have C2 := N6.c2; have D0 := N6.f0; have D1 := N6.f1; have D2 := N6.f2; go_simp; clear C0 C1 C2 D0 D1 D2; have kf := Far.set3 wz g6 (.int .i64 0) (.int .i64 (xA : Int)) (.int .i64 0); replace N6 := N6.set (.int .i64 0) (.int .i64 (xA : Int)) (.int .i64 0); (try replace N7 := N7.far kf eN.symm); replace G := G.box F6 (.int .i64 0) (.int .i64 (xA : Int)) (.int .i64 0); clear kf; rw [show (((wz.setCell ⟨g6, 0, none⟩ (.int .i64 0)).setCell ⟨g6, 1, none⟩ (.int .i64 (xA : Int))).setCell ⟨g6, 2, none⟩ (.int .i64 0)) = set3 wz g6 (.int .i64 0) (.int .i64 (xA : Int)) (.int .i64 0) from rfl]; generalize set3 wz g6 (.int .i64 0) (.int .i64 (xA : Int)) (.int .i64 0) = wC at *; obtain ⟨wz, rfl⟩ : ∃ x : World, x = wC := ⟨_, rfl⟩)
          refine hK.out _ _ ?_ (fun hHeld7 => ?_)
          · ((try dsimp only); (first | exact G.P.c1))
          clear hB hK K hHeld6
          refine AnyB.each (rs := [13]) (by kernel_rfl) (by simp) ?_
          refine EachB.cons rfl (fun K hK hB => ?_) ?_
          · skip
            ((try (have P0 : GSt w W.drew w.heap.size n k a b gT g0 p0 g1 p1 (idX n) (idZ n) := G; clear P0; generalize W.drew = wz at *)); have C0 := N7.c0; have C1 := N7.c1; have C2 := N7.c2; have D0 := N7.f0; have D1 := N7.f1; have D2 := N7.f2; go_simp; clear C0 C1 C2 D0 D1 D2; have kf := Far.set3 wz g7 (.int .i64 0) (.int .i64 0) (.int .i64 (xA : Int)); replace N7 := N7.set (.int .i64 0) (.int .i64 0) (.int .i64 (xA : Int)); (try replace N6 := N6.far kf eN); replace G := G.box F7 (.int .i64 0) (.int .i64 0) (.int .i64 (xA : Int)); clear kf; rw [show (((wz.setCell ⟨g7, 0, none⟩ (.int .i64 0)).setCell ⟨g7, 1, none⟩ (.int .i64 0)).setCell ⟨g7, 2, none⟩ (.int .i64 (xA : Int))) = set3 wz g7 (.int .i64 0) (.int .i64 0) (.int .i64 (xA : Int)) from rfl]; generalize set3 wz g7 (.int .i64 0) (.int .i64 0) (.int .i64 (xA : Int)) = wC at *; obtain ⟨wz, rfl⟩ : ∃ x : World, x = wC := ⟨_, rfl⟩)
            refine hK.out _ _ ?_ (fun hHeld8 => ?_)
            · ((try dsimp only); (first | exact G.P.c1))
            clear hB hK K hHeld7
            refine AnyB.none (by kernel_rfl) ?_ _
            go_wp2_with fail
            go_meet
            exact ⟨g6, g7, rfl, rfl, N6, N7, F6, F7, G⟩
          exact EachB.nil
        exact EachB.nil
      exact EachB.nil
    exact EachB.nil
  case rest =>
    clear G
    obtain ⟨g6, g7, rfl, rfl, N6, N7, F6, F7, G⟩ := hcut
    go_upto_region 3 with fail
    obtain ⟨wq, rfl⟩ : ∃ x : World, x = wc := ⟨_, rfl⟩
    replace G := G.drew
    replace N6 := N6.drew
    replace N7 := N7.drew
    go_cut [8, 9] (fun s8 s9 wx => ∃ g8 g9 : Nat, s8 = .pointer (some ⟨g8, 0, none⟩) ∧ s9 = .pointer (some ⟨g9, 0, none⟩) ∧ Box3 wx g8 (.int .i64 0) (.int .i64 (xB : Int)) (.int .i64 0) ∧ Box3 wx g9 (.int .i64 0) (.int .i64 0) (.int .i64 (xB : Int)) ∧ Off w.heap.size gT g0 g1 g8 ∧ Off w.heap.size gT g0 g1 g9 ∧ Box3 wx g6 (.int .i64 0) (.int .i64 (xA : Int)) (.int .i64 0) ∧ Box3 wx g7 (.int .i64 0) (.int .i64 0) (.int .i64 (xA : Int)) ∧ GSt w wx w.heap.size n k a b gT g0 p0 g1 p1 (idX n) (idZ n))
    case first =>
      refine AnyB.begin (S := (fun w' => w'.cell? ⟨w.heap.size, 2, none⟩ = some (.int .i64 (b : Int)))) [] (by kernel_rfl) ?_ (fun hHeld0 => ?_)
      · ((try dsimp only); (first | exact G.P.c2))
      refine AnyB.tq (i := 0) (h := ?_)
      refine AnyB.tk (i := 1) (h := ?_)
      refine AnyB.tq (i := 2) (h := ?_)
      refine AnyB.tq (i := 3) (h := ?_)
      refine AnyB.tq (i := 4) (h := ?_)
      refine AnyB.tq (i := 5) (h := ?_)
      refine AnyB.tk (i := 6) (h := ?_)
      refine AnyB.tq (i := 7) (h := ?_)
      refine AnyB.tq (i := 8) (h := ?_)
      refine AnyB.tq (i := 9) (h := ?_)
      refine AnyB.each (rs := [10, 11]) (by kernel_rfl) (by simp) ?_
      refine EachB.cons rfl (fun K hK hB => ?_) ?_
      · skip
        ((try (have P0 : GSt w wq.drew w.heap.size n k a b gT g0 p0 g1 p1 (idX n) (idZ n) := G; clear P0; generalize wq.drew = wz at *)); go_simp; have N8 := Box3.new wz (.int .i64 0) (.int .i64 0) (.int .i64 0) 33; have F8 := G.off (Nat.le_refl _); (try (have eN : wz.heap.size ≠ g9 := Nat.ne_of_gt N9.lt; replace N9 := N9.alloc (.cells #[.int .i64 0, .int .i64 0, .int .i64 0] 33))); have e68 : g6 ≠ wz.heap.size := Nat.ne_of_lt N6.lt; replace N6 := N6.alloc (.cells #[.int .i64 0, .int .i64 0, .int .i64 0] 33); have e78 : g7 ≠ wz.heap.size := Nat.ne_of_lt N7.lt; replace N7 := N7.alloc (.cells #[.int .i64 0, .int .i64 0, .int .i64 0] 33); replace G := G.alloc (.cells #[.int .i64 0, .int .i64 0, .int .i64 0] 33); generalize wz.alloc (.cells #[.int .i64 0, .int .i64 0, .int .i64 0] 33) = wC at *; generalize wz.heap.size = g8 at *; obtain ⟨wz, rfl⟩ : ∃ x : World, x = wC := ⟨_, rfl⟩)
        refine hK.out _ _ ?_ (fun hHeld1 => ?_)
        · ((try dsimp only); (first | exact G.P.c2))
        clear hB hK K hHeld0
        refine AnyB.each (rs := [11]) (by kernel_rfl) (by simp) ?_
        refine EachB.cons rfl (fun K hK hB => ?_) ?_
        · skip
          ((try (have P0 : GSt w wq.drew w.heap.size n k a b gT g0 p0 g1 p1 (idX n) (idZ n) := G; clear P0; generalize wq.drew = wz at *)); go_simp; have N9 := Box3.new wz (.int .i64 0) (.int .i64 0) (.int .i64 0) 33; have F9 := G.off (Nat.le_refl _); (try (have eN : g8 ≠ wz.heap.size := Nat.ne_of_lt N8.lt; replace N8 := N8.alloc (.cells #[.int .i64 0, .int .i64 0, .int .i64 0] 33))); have e69 : g6 ≠ wz.heap.size := Nat.ne_of_lt N6.lt; replace N6 := N6.alloc (.cells #[.int .i64 0, .int .i64 0, .int .i64 0] 33); have e79 : g7 ≠ wz.heap.size := Nat.ne_of_lt N7.lt; replace N7 := N7.alloc (.cells #[.int .i64 0, .int .i64 0, .int .i64 0] 33); replace G := G.alloc (.cells #[.int .i64 0, .int .i64 0, .int .i64 0] 33); generalize wz.alloc (.cells #[.int .i64 0, .int .i64 0, .int .i64 0] 33) = wC at *; generalize wz.heap.size = g9 at *; obtain ⟨wz, rfl⟩ : ∃ x : World, x = wC := ⟨_, rfl⟩)
          refine hK.out _ _ ?_ (fun hHeld2 => ?_)
          · ((try dsimp only); (first | exact G.P.c2))
          clear hB hK K hHeld1
          refine AnyB.each (rs := [12]) (by kernel_rfl) (by simp) ?_
          refine EachB.cons rfl (fun K hK hB => ?_) ?_
          · skip
            ((try (have P0 : GSt w wq.drew w.heap.size n k a b gT g0 p0 g1 p1 (idX n) (idZ n) := G; clear P0; generalize wq.drew = wz at *)); have C0 := N8.c0; have C1 := N8.c1; have C2 := N8.c2; have D0 := N8.f0; have D1 := N8.f1; have D2 := N8.f2; go_simp; clear C0 C1 C2 D0 D1 D2; have kf := Far.set3 wz g8 (.int .i64 0) (.int .i64 (xB : Int)) (.int .i64 0); replace N8 := N8.set (.int .i64 0) (.int .i64 (xB : Int)) (.int .i64 0); (try replace N9 := N9.far kf eN.symm); replace N6 := N6.far kf e68; replace N7 := N7.far kf e78; replace G := G.box F8 (.int .i64 0) (.int .i64 (xB : Int)) (.int .i64 0); clear kf; rw [show (((wz.setCell ⟨g8, 0, none⟩ (.int .i64 0)).setCell ⟨g8, 1, none⟩ (.int .i64 (xB : Int))).setCell ⟨g8, 2, none⟩ (.int .i64 0)) = set3 wz g8 (.int .i64 0) (.int .i64 (xB : Int)) (.int .i64 0) from rfl]; generalize set3 wz g8 (.int .i64 0) (.int .i64 (xB : Int)) (.int .i64 0) = wC at *; obtain ⟨wz, rfl⟩ : ∃ x : World, x = wC := ⟨_, rfl⟩)
            refine hK.out _ _ ?_ (fun hHeld3 => ?_)
            · ((try dsimp only); (first | exact G.P.c2))
            clear hB hK K hHeld2
            refine AnyB.each (rs := [13]) (by kernel_rfl) (by simp) ?_
            refine EachB.cons rfl (fun K hK hB => ?_) ?_
            · skip
              ((try (have P0 : GSt w wq.drew w.heap.size n k a b gT g0 p0 g1 p1 (idX n) (idZ n) := G; clear P0; generalize wq.drew = wz at *)); have C0 := N9.c0; have C1 := N9.c1; have C2 := N9.c2; have D0 := N9.f0; have D1 := N9.f1; have D2 := N9.f2; go_simp; clear C0 C1 C2 D0 D1 D2; have kf := Far.set3 wz g9 (.int .i64 0) (.int .i64 0) (.int .i64 (xB : Int)); replace N9 := N9.set (.int .i64 0) (.int .i64 0) (.int .i64 (xB : Int)); (try replace N8 := N8.far kf eN); replace N6 := N6.far kf e69; replace N7 := N7.far kf e79; replace G := G.box F9 (.int .i64 0) (.int .i64 0) (.int .i64 (xB : Int)); clear kf; rw [show (((wz.setCell ⟨g9, 0, none⟩ (.int .i64 0)).setCell ⟨g9, 1, none⟩ (.int .i64 0)).setCell ⟨g9, 2, none⟩ (.int .i64 (xB : Int))) = set3 wz g9 (.int .i64 0) (.int .i64 0) (.int .i64 (xB : Int)) from rfl]; generalize set3 wz g9 (.int .i64 0) (.int .i64 0) (.int .i64 (xB : Int)) = wC at *; obtain ⟨wz, rfl⟩ : ∃ x : World, x = wC := ⟨_, rfl⟩)
              refine hK.out _ _ ?_ (fun hHeld4 => ?_)
              · ((try dsimp only); (first | exact G.P.c2))
              clear hB hK K hHeld3
              refine AnyB.none (by kernel_rfl) ?_ _
              go_wp2_with fail
              go_meet
              exact ⟨g8, g9, rfl, rfl, N8, N9, F8, F9, N6, N7, G⟩
            exact EachB.nil
          exact EachB.nil
        exact EachB.nil
      refine EachB.cons rfl (fun K hK hB => ?_) ?_
      · skip
        ((try (have P0 : GSt w wq.drew w.heap.size n k a b gT g0 p0 g1 p1 (idX n) (idZ n) := G; clear P0; generalize wq.drew = wz at *)); go_simp; have N9 := Box3.new wz (.int .i64 0) (.int .i64 0) (.int .i64 0) 33; have F9 := G.off (Nat.le_refl _); (try (have eN : g8 ≠ wz.heap.size := Nat.ne_of_lt N8.lt; replace N8 := N8.alloc (.cells #[.int .i64 0, .int .i64 0, .int .i64 0] 33))); have e69 : g6 ≠ wz.heap.size := Nat.ne_of_lt N6.lt; replace N6 := N6.alloc (.cells #[.int .i64 0, .int .i64 0, .int .i64 0] 33); have e79 : g7 ≠ wz.heap.size := Nat.ne_of_lt N7.lt; replace N7 := N7.alloc (.cells #[.int .i64 0, .int .i64 0, .int .i64 0] 33); replace G := G.alloc (.cells #[.int .i64 0, .int .i64 0, .int .i64 0] 33); generalize wz.alloc (.cells #[.int .i64 0, .int .i64 0, .int .i64 0] 33) = wC at *; generalize wz.heap.size = g9 at *; obtain ⟨wz, rfl⟩ : ∃ x : World, x = wC := ⟨_, rfl⟩)
        refine hK.out _ _ ?_ (fun hHeld5 => ?_)
        · ((try dsimp only); (first | exact G.P.c2))
        clear hB hK K hHeld0
        refine AnyB.each (rs := [10]) (by kernel_rfl) (by simp) ?_
        refine EachB.cons rfl (fun K hK hB => ?_) ?_
        · skip
          ((try (have P0 : GSt w wq.drew w.heap.size n k a b gT g0 p0 g1 p1 (idX n) (idZ n) := G; clear P0; generalize wq.drew = wz at *)); go_simp; have N8 := Box3.new wz (.int .i64 0) (.int .i64 0) (.int .i64 0) 33; have F8 := G.off (Nat.le_refl _); (try (have eN : wz.heap.size ≠ g9 := Nat.ne_of_gt N9.lt; replace N9 := N9.alloc (.cells #[.int .i64 0, .int .i64 0, .int .i64 0] 33))); have e68 : g6 ≠ wz.heap.size := Nat.ne_of_lt N6.lt; replace N6 := N6.alloc (.cells #[.int .i64 0, .int .i64 0, .int .i64 0] 33); have e78 : g7 ≠ wz.heap.size := Nat.ne_of_lt N7.lt; replace N7 := N7.alloc (.cells #[.int .i64 0, .int .i64 0, .int .i64 0] 33); replace G := G.alloc (.cells #[.int .i64 0, .int .i64 0, .int .i64 0] 33); generalize wz.alloc (.cells #[.int .i64 0, .int .i64 0, .int .i64 0] 33) = wC at *; generalize wz.heap.size = g8 at *; obtain ⟨wz, rfl⟩ : ∃ x : World, x = wC := ⟨_, rfl⟩)
          refine hK.out _ _ ?_ (fun hHeld6 => ?_)
          · ((try dsimp only); (first | exact G.P.c2))
          clear hB hK K hHeld5
          refine AnyB.each (rs := [12]) (by kernel_rfl) (by simp) ?_
          refine EachB.cons rfl (fun K hK hB => ?_) ?_
          · skip
            ((try (have P0 : GSt w wq.drew w.heap.size n k a b gT g0 p0 g1 p1 (idX n) (idZ n) := G; clear P0; generalize wq.drew = wz at *)); have C0 := N8.c0; have C1 := N8.c1; have C2 := N8.c2; have D0 := N8.f0; have D1 := N8.f1; have D2 := N8.f2; go_simp; clear C0 C1 C2 D0 D1 D2; have kf := Far.set3 wz g8 (.int .i64 0) (.int .i64 (xB : Int)) (.int .i64 0); replace N8 := N8.set (.int .i64 0) (.int .i64 (xB : Int)) (.int .i64 0); (try replace N9 := N9.far kf eN.symm); replace N6 := N6.far kf e68; replace N7 := N7.far kf e78; replace G := G.box F8 (.int .i64 0) (.int .i64 (xB : Int)) (.int .i64 0); clear kf; rw [show (((wz.setCell ⟨g8, 0, none⟩ (.int .i64 0)).setCell ⟨g8, 1, none⟩ (.int .i64 (xB : Int))).setCell ⟨g8, 2, none⟩ (.int .i64 0)) = set3 wz g8 (.int .i64 0) (.int .i64 (xB : Int)) (.int .i64 0) from rfl]; generalize set3 wz g8 (.int .i64 0) (.int .i64 (xB : Int)) (.int .i64 0) = wC at *; obtain ⟨wz, rfl⟩ : ∃ x : World, x = wC := ⟨_, rfl⟩)
            refine hK.out _ _ ?_ (fun hHeld7 => ?_)
            · ((try dsimp only); (first | exact G.P.c2))
            clear hB hK K hHeld6
            refine AnyB.each (rs := [13]) (by kernel_rfl) (by simp) ?_
            refine EachB.cons rfl (fun K hK hB => ?_) ?_
            · skip
              ((try (have P0 : GSt w wq.drew w.heap.size n k a b gT g0 p0 g1 p1 (idX n) (idZ n) := G; clear P0; generalize wq.drew = wz at *)); have C0 := N9.c0; have C1 := N9.c1; have C2 := N9.c2; have D0 := N9.f0; have D1 := N9.f1; have D2 := N9.f2; go_simp; clear C0 C1 C2 D0 D1 D2; have kf := Far.set3 wz g9 (.int .i64 0) (.int .i64 0) (.int .i64 (xB : Int)); replace N9 := N9.set (.int .i64 0) (.int .i64 0) (.int .i64 (xB : Int)); (try replace N8 := N8.far kf eN); replace N6 := N6.far kf e69; replace N7 := N7.far kf e79; replace G := G.box F9 (.int .i64 0) (.int .i64 0) (.int .i64 (xB : Int)); clear kf; rw [show (((wz.setCell ⟨g9, 0, none⟩ (.int .i64 0)).setCell ⟨g9, 1, none⟩ (.int .i64 0)).setCell ⟨g9, 2, none⟩ (.int .i64 (xB : Int))) = set3 wz g9 (.int .i64 0) (.int .i64 0) (.int .i64 (xB : Int)) from rfl]; generalize set3 wz g9 (.int .i64 0) (.int .i64 0) (.int .i64 (xB : Int)) = wC at *; obtain ⟨wz, rfl⟩ : ∃ x : World, x = wC := ⟨_, rfl⟩)
              refine hK.out _ _ ?_ (fun hHeld8 => ?_)
              · ((try dsimp only); (first | exact G.P.c2))
              clear hB hK K hHeld7
              refine AnyB.none (by kernel_rfl) ?_ _
              go_wp2_with fail
              go_meet
              exact ⟨g8, g9, rfl, rfl, N8, N9, F8, F9, N6, N7, G⟩
            exact EachB.nil
          exact EachB.nil
        exact EachB.nil
      exact EachB.nil
    case rest =>
      clear N6
      clear N7
      clear G
      obtain ⟨g8, g9, rfl, rfl, N8, N9, F8, F9, N6, N7, G⟩ := hcut
      have HNE := Lib.hid (show 9 ≤ k → k ≤ 11 → a ≠ b from fun h1 h2 => by have := HK.out.kind; omega)
      have hkd : k = 1 ∨ k = 2 ∨ k = 3 ∨ k = 4 ∨ k = 5 ∨ k = 6 ∨ k = 9 ∨ k = 10 ∨ k = 11 ∨ k = 12 := by have := HK.out.kind; omega
      clear HK
      rcases hkd with rfl | rfl | rfl | rfl | rfl | rfl | rfl | rfl | rfl | rfl
      · clear HNE
        have x0 := G.P.c0; have x1 := G.P.c1; have x2 := G.P.c2; have t0 := G.T.c0; have t1 := G.T.c1; have t2 := G.T.c2
        have b60 := N6.c0; have b61 := N6.c1; have b62 := N6.c2
        have b70 := N7.c0; have b71 := N7.c1; have b72 := N7.c2
        have b80 := N8.c0; have b81 := N8.c1; have b82 := N8.c2
        have b90 := N9.c0; have b91 := N9.c1; have b92 := N9.c2
        obtain ⟨y0, y1, y2⟩ := G.O0.cell a ha; have z0 := G.O0.frz (a * 3); have z1 := G.O0.frz (a * 3 + 1); have z2 := G.O0.frz (a * 3 + 2)
        go_upto_region 7 with fail
        clear x0 x1 x2 t0 t1 t2 b60 b61 b62 b70 b71 b72 b80 b81 b82 b90 b91 b92 y0 y1 y2 z0 z1 z2
        replace N6 := N6.putE a (⟨0, 0, (xA : Int)⟩ : E3) F6.n0; replace N7 := N7.putE a (⟨0, 0, (xA : Int)⟩ : E3) F7.n0; replace N8 := N8.putE a (⟨0, 0, (xA : Int)⟩ : E3) F8.n0; replace N9 := N9.putE a (⟨0, 0, (xA : Int)⟩ : E3) F9.n0
        have G2 := G.setX a ha (⟨0, 0, (xA : Int)⟩ : E3)
        clear G
        rw [show (((wc.setCell ⟨g0, a * 3, none⟩ (.int .i64 0)).setCell ⟨g0, a * 3 + 1, none⟩ (.int .i64 0)).setCell ⟨g0, a * 3 + 2, none⟩ (.int .i64 (xA : Int))) = put3 wc g0 a (⟨0, 0, (xA : Int)⟩ : E3) from rfl]
        generalize put3 wc g0 a (⟨0, 0, (xA : Int)⟩ : E3) = wy at *
        obtain ⟨wc, rfl⟩ : ∃ x : World, x = wy := ⟨_, rfl⟩
        have G := G2; clear G2
        have x0 := G.P.c0; have x1 := G.P.c1; have x2 := G.P.c2; have t0 := G.T.c0; have t1 := G.T.c1; have t2 := G.T.c2
        have b60 := N6.c0; have b61 := N6.c1; have b62 := N6.c2
        have b70 := N7.c0; have b71 := N7.c1; have b72 := N7.c2
        have b80 := N8.c0; have b81 := N8.c1; have b82 := N8.c2
        have b90 := N9.c0; have b91 := N9.c1; have b92 := N9.c2
        obtain ⟨y0, y1, y2⟩ := G.O1.cell a ha; have z0 := G.O1.frz (a * 3); have z1 := G.O1.frz (a * 3 + 1); have z2 := G.O1.frz (a * 3 + 2)
        go_upto_region 31 with fail
        clear x0 x1 x2 t0 t1 t2 b60 b61 b62 b70 b71 b72 b80 b81 b82 b90 b91 b92 y0 y1 y2 z0 z1 z2
        replace N6 := N6.putE a (⟨0, (xA : Int), 0⟩ : E3) F6.n1; replace N7 := N7.putE a (⟨0, (xA : Int), 0⟩ : E3) F7.n1; replace N8 := N8.putE a (⟨0, (xA : Int), 0⟩ : E3) F8.n1; replace N9 := N9.putE a (⟨0, (xA : Int), 0⟩ : E3) F9.n1
        have G2 := G.setZ a ha (⟨0, (xA : Int), 0⟩ : E3)
        clear G
        rw [show (((wc.setCell ⟨g1, a * 3, none⟩ (.int .i64 0)).setCell ⟨g1, a * 3 + 1, none⟩ (.int .i64 (xA : Int))).setCell ⟨g1, a * 3 + 2, none⟩ (.int .i64 0)) = put3 wc g1 a (⟨0, (xA : Int), 0⟩ : E3) from rfl]
        generalize put3 wc g1 a (⟨0, (xA : Int), 0⟩ : E3) = wy at *
        obtain ⟨wc, rfl⟩ : ∃ x : World, x = wy := ⟨_, rfl⟩
        have G := G2; clear G2
        have x0 := G.P.c0; have t0 := G.T.c0; have t1 := G.T.c1; have t2 := G.T.c2; have r0 := G.R.c0; have r1 := G.R.c1; have r2 := G.R.c2; have f0 := G.R.f0; have f1 := G.R.f1; have f2 := G.R.f2
        have hZ := box_set3 (.int .i64 (n : Int)) (.slice (some ⟨g0, 0, none⟩) n p0) (.slice (some ⟨g1, 0, none⟩) n p1) r0 r1 r2
        go_wp2_with fail
        have eX : ((idX n).set a (⟨0, 0, (xA : Int)⟩ : E3)) = pes (gtX n 1 a b) := by
          rw [show gtX n 1 a b = ((idPX n).set a (⟨0, 0, xA⟩ : PN)) from by (try rw [HO.out]); (try rw [HA.out]); (try rw [HB.out]); rfl]
          (try rw [← set_pes]); (try rw [← set_pes]); (try rw [← idX_pes]); (try rfl)
        have eZ : ((idZ n).set a (⟨0, (xA : Int), 0⟩ : E3)) = pes (gtZ n 1 a b) := by
          rw [show gtZ n 1 a b = ((idPZ n).set a (⟨0, xA, 0⟩ : PN)) from by (try rw [HO.out]); (try rw [HA.out]); (try rw [HB.out]); rfl]
          (try rw [← set_pes]); (try rw [← set_pes]); (try rw [← idZ_pes]); (try rfl)
        exact bodyPost_ret (v := .agg #[.int .i64 (n : Int), .slice (some ⟨g0, 0, none⟩) n p0, .slice (some ⟨g1, 0, none⟩) n p1]) (by simp [results, Tryz.results68, go_sem, hZ]) rfl ((GSt.done G _ _ _).eq eX eZ)
      · clear HNE
        have x0 := G.P.c0; have x1 := G.P.c1; have x2 := G.P.c2; have t0 := G.T.c0; have t1 := G.T.c1; have t2 := G.T.c2
        have b60 := N6.c0; have b61 := N6.c1; have b62 := N6.c2
        have b70 := N7.c0; have b71 := N7.c1; have b72 := N7.c2
        have b80 := N8.c0; have b81 := N8.c1; have b82 := N8.c2
        have b90 := N9.c0; have b91 := N9.c1; have b92 := N9.c2
        obtain ⟨y0, y1, y2⟩ := G.O1.cell a ha; have z0 := G.O1.frz (a * 3); have z1 := G.O1.frz (a * 3 + 1); have z2 := G.O1.frz (a * 3 + 2)
        go_upto_region 31 with fail
        clear x0 x1 x2 t0 t1 t2 b60 b61 b62 b70 b71 b72 b80 b81 b82 b90 b91 b92 y0 y1 y2 z0 z1 z2
        replace N6 := N6.ph (a * 3) (.int .i64 2) F6.n1; replace N7 := N7.ph (a * 3) (.int .i64 2) F7.n1; replace N8 := N8.ph (a * 3) (.int .i64 2) F8.n1; replace N9 := N9.ph (a * 3) (.int .i64 2) F9.n1
        have G2 : GSt w (wc.setCell ⟨g1, a * 3, none⟩ (.int .i64 2)) w.heap.size n 2 a b gT g0 p0 g1 p1 (idX n) ((idZ n).set a (⟨2, 0, (xA : Int)⟩ : E3)) := by have h := G.phZ a ha 2; rw [idZ_get ha, hpa] at h; exact h
        clear G
        generalize wc.setCell ⟨g1, a * 3, none⟩ (.int .i64 2) = wy at *
        obtain ⟨wc, rfl⟩ : ∃ x : World, x = wy := ⟨_, rfl⟩
        have G := G2; clear G2
        have x0 := G.P.c0; have t0 := G.T.c0; have t1 := G.T.c1; have t2 := G.T.c2; have r0 := G.R.c0; have r1 := G.R.c1; have r2 := G.R.c2; have f0 := G.R.f0; have f1 := G.R.f1; have f2 := G.R.f2
        have hZ := box_set3 (.int .i64 (n : Int)) (.slice (some ⟨g0, 0, none⟩) n p0) (.slice (some ⟨g1, 0, none⟩) n p1) r0 r1 r2
        go_wp2_with fail
        have eX : (idX n) = pes (gtX n 2 a b) := by
          rw [show gtX n 2 a b = (idPX n) from by (try rw [HO.out]); (try rw [HA.out]); (try rw [HB.out]); rfl]
          (try rw [← set_pes]); (try rw [← set_pes]); (try rw [← idX_pes]); (try rfl)
        have eZ : ((idZ n).set a (⟨2, 0, (xA : Int)⟩ : E3)) = pes (gtZ n 2 a b) := by
          rw [show gtZ n 2 a b = ((idPZ n).set a (⟨2, 0, xA⟩ : PN)) from by (try rw [HO.out]); (try rw [HA.out]); (try rw [HB.out]); rfl]
          (try rw [← set_pes]); (try rw [← set_pes]); (try rw [← idZ_pes]); (try rfl)
        exact bodyPost_ret (v := .agg #[.int .i64 (n : Int), .slice (some ⟨g0, 0, none⟩) n p0, .slice (some ⟨g1, 0, none⟩) n p1]) (by simp [results, Tryz.results68, go_sem, hZ]) rfl ((GSt.done G _ _ _).eq eX eZ)
      · clear HNE
        have x0 := G.P.c0; have x1 := G.P.c1; have x2 := G.P.c2; have t0 := G.T.c0; have t1 := G.T.c1; have t2 := G.T.c2
        have b60 := N6.c0; have b61 := N6.c1; have b62 := N6.c2
        have b70 := N7.c0; have b71 := N7.c1; have b72 := N7.c2
        have b80 := N8.c0; have b81 := N8.c1; have b82 := N8.c2
        have b90 := N9.c0; have b91 := N9.c1; have b92 := N9.c2
        obtain ⟨y0, y1, y2⟩ := G.O0.cell a ha; have z0 := G.O0.frz (a * 3); have z1 := G.O0.frz (a * 3 + 1); have z2 := G.O0.frz (a * 3 + 2)
        go_upto_region 14 with fail
        clear x0 x1 x2 t0 t1 t2 b60 b61 b62 b70 b71 b72 b80 b81 b82 b90 b91 b92 y0 y1 y2 z0 z1 z2
        replace N6 := N6.ph (a * 3) (.int .i64 2) F6.n0; replace N7 := N7.ph (a * 3) (.int .i64 2) F7.n0; replace N8 := N8.ph (a * 3) (.int .i64 2) F8.n0; replace N9 := N9.ph (a * 3) (.int .i64 2) F9.n0
        have G2 : GSt w (wc.setCell ⟨g0, a * 3, none⟩ (.int .i64 2)) w.heap.size n 3 a b gT g0 p0 g1 p1 ((idX n).set a (⟨2, (xA : Int), 0⟩ : E3)) (idZ n) := by have h := G.phX a ha 2; rw [idX_get ha, hpa] at h; exact h
        clear G
        generalize wc.setCell ⟨g0, a * 3, none⟩ (.int .i64 2) = wy at *
        obtain ⟨wc, rfl⟩ : ∃ x : World, x = wy := ⟨_, rfl⟩
        have G := G2; clear G2
        have x0 := G.P.c0; have x1 := G.P.c1; have x2 := G.P.c2; have t0 := G.T.c0; have t1 := G.T.c1; have t2 := G.T.c2
        have b60 := N6.c0; have b61 := N6.c1; have b62 := N6.c2
        have b70 := N7.c0; have b71 := N7.c1; have b72 := N7.c2
        have b80 := N8.c0; have b81 := N8.c1; have b82 := N8.c2
        have b90 := N9.c0; have b91 := N9.c1; have b92 := N9.c2
        obtain ⟨y0, y1, y2⟩ := G.O1.cell a ha; have z0 := G.O1.frz (a * 3); have z1 := G.O1.frz (a * 3 + 1); have z2 := G.O1.frz (a * 3 + 2)
        go_upto_region 31 with fail
        clear x0 x1 x2 t0 t1 t2 b60 b61 b62 b70 b71 b72 b80 b81 b82 b90 b91 b92 y0 y1 y2 z0 z1 z2
        replace N6 := N6.ph (a * 3) (.int .i64 2) F6.n1; replace N7 := N7.ph (a * 3) (.int .i64 2) F7.n1; replace N8 := N8.ph (a * 3) (.int .i64 2) F8.n1; replace N9 := N9.ph (a * 3) (.int .i64 2) F9.n1
        have G2 : GSt w (wc.setCell ⟨g1, a * 3, none⟩ (.int .i64 2)) w.heap.size n 3 a b gT g0 p0 g1 p1 ((idX n).set a (⟨2, (xA : Int), 0⟩ : E3)) ((idZ n).set a (⟨2, 0, (xA : Int)⟩ : E3)) := by have h := G.phZ a ha 2; rw [idZ_get ha, hpa] at h; exact h
        clear G
        generalize wc.setCell ⟨g1, a * 3, none⟩ (.int .i64 2) = wy at *
        obtain ⟨wc, rfl⟩ : ∃ x : World, x = wy := ⟨_, rfl⟩
        have G := G2; clear G2
        have x0 := G.P.c0; have t0 := G.T.c0; have t1 := G.T.c1; have t2 := G.T.c2; have r0 := G.R.c0; have r1 := G.R.c1; have r2 := G.R.c2; have f0 := G.R.f0; have f1 := G.R.f1; have f2 := G.R.f2
        have hZ := box_set3 (.int .i64 (n : Int)) (.slice (some ⟨g0, 0, none⟩) n p0) (.slice (some ⟨g1, 0, none⟩) n p1) r0 r1 r2
        go_wp2_with fail
        have eX : ((idX n).set a (⟨2, (xA : Int), 0⟩ : E3)) = pes (gtX n 3 a b) := by
          rw [show gtX n 3 a b = ((idPX n).set a (⟨2, xA, 0⟩ : PN)) from by (try rw [HO.out]); (try rw [HA.out]); (try rw [HB.out]); rfl]
          (try rw [← set_pes]); (try rw [← set_pes]); (try rw [← idX_pes]); (try rfl)
        have eZ : ((idZ n).set a (⟨2, 0, (xA : Int)⟩ : E3)) = pes (gtZ n 3 a b) := by
          rw [show gtZ n 3 a b = ((idPZ n).set a (⟨2, 0, xA⟩ : PN)) from by (try rw [HO.out]); (try rw [HA.out]); (try rw [HB.out]); rfl]
          (try rw [← set_pes]); (try rw [← set_pes]); (try rw [← idZ_pes]); (try rfl)
        exact bodyPost_ret (v := .agg #[.int .i64 (n : Int), .slice (some ⟨g0, 0, none⟩) n p0, .slice (some ⟨g1, 0, none⟩) n p1]) (by simp [results, Tryz.results68, go_sem, hZ]) rfl ((GSt.done G _ _ _).eq eX eZ)
      · clear HNE
        have x0 := G.P.c0; have x1 := G.P.c1; have x2 := G.P.c2; have t0 := G.T.c0; have t1 := G.T.c1; have t2 := G.T.c2
        have b60 := N6.c0; have b61 := N6.c1; have b62 := N6.c2
        have b70 := N7.c0; have b71 := N7.c1; have b72 := N7.c2
        have b80 := N8.c0; have b81 := N8.c1; have b82 := N8.c2
        have b90 := N9.c0; have b91 := N9.c1; have b92 := N9.c2
        obtain ⟨y0, y1, y2⟩ := G.O0.cell a ha; have z0 := G.O0.frz (a * 3); have z1 := G.O0.frz (a * 3 + 1); have z2 := G.O0.frz (a * 3 + 2)
        go_upto_region 31 with fail
        clear x0 x1 x2 t0 t1 t2 b60 b61 b62 b70 b71 b72 b80 b81 b82 b90 b91 b92 y0 y1 y2 z0 z1 z2
        replace N6 := N6.ph (a * 3) (.int .i64 2) F6.n0; replace N7 := N7.ph (a * 3) (.int .i64 2) F7.n0; replace N8 := N8.ph (a * 3) (.int .i64 2) F8.n0; replace N9 := N9.ph (a * 3) (.int .i64 2) F9.n0
        have G2 : GSt w (wc.setCell ⟨g0, a * 3, none⟩ (.int .i64 2)) w.heap.size n 4 a b gT g0 p0 g1 p1 ((idX n).set a (⟨2, (xA : Int), 0⟩ : E3)) (idZ n) := by have h := G.phX a ha 2; rw [idX_get ha, hpa] at h; exact h
        clear G
        generalize wc.setCell ⟨g0, a * 3, none⟩ (.int .i64 2) = wy at *
        obtain ⟨wc, rfl⟩ : ∃ x : World, x = wy := ⟨_, rfl⟩
        have G := G2; clear G2
        have x0 := G.P.c0; have t0 := G.T.c0; have t1 := G.T.c1; have t2 := G.T.c2; have r0 := G.R.c0; have r1 := G.R.c1; have r2 := G.R.c2; have f0 := G.R.f0; have f1 := G.R.f1; have f2 := G.R.f2
        have hZ := box_set3 (.int .i64 (n : Int)) (.slice (some ⟨g0, 0, none⟩) n p0) (.slice (some ⟨g1, 0, none⟩) n p1) r0 r1 r2
        go_wp2_with fail
        have eX : ((idX n).set a (⟨2, (xA : Int), 0⟩ : E3)) = pes (gtX n 4 a b) := by
          rw [show gtX n 4 a b = ((idPX n).set a (⟨2, xA, 0⟩ : PN)) from by (try rw [HO.out]); (try rw [HA.out]); (try rw [HB.out]); rfl]
          (try rw [← set_pes]); (try rw [← set_pes]); (try rw [← idX_pes]); (try rfl)
        have eZ : (idZ n) = pes (gtZ n 4 a b) := by
          rw [show gtZ n 4 a b = (idPZ n) from by (try rw [HO.out]); (try rw [HA.out]); (try rw [HB.out]); rfl]
          (try rw [← set_pes]); (try rw [← set_pes]); (try rw [← idZ_pes]); (try rfl)
        exact bodyPost_ret (v := .agg #[.int .i64 (n : Int), .slice (some ⟨g0, 0, none⟩) n p0, .slice (some ⟨g1, 0, none⟩) n p1]) (by simp [results, Tryz.results68, go_sem, hZ]) rfl ((GSt.done G _ _ _).eq eX eZ)
      · clear HNE
        have x0 := G.P.c0; have x1 := G.P.c1; have x2 := G.P.c2; have t0 := G.T.c0; have t1 := G.T.c1; have t2 := G.T.c2
        have b60 := N6.c0; have b61 := N6.c1; have b62 := N6.c2
        have b70 := N7.c0; have b71 := N7.c1; have b72 := N7.c2
        have b80 := N8.c0; have b81 := N8.c1; have b82 := N8.c2
        have b90 := N9.c0; have b91 := N9.c1; have b92 := N9.c2
        obtain ⟨y0, y1, y2⟩ := G.O0.cell a ha; have z0 := G.O0.frz (a * 3); have z1 := G.O0.frz (a * 3 + 1); have z2 := G.O0.frz (a * 3 + 2)
        go_upto_region 18 with fail
        clear x0 x1 x2 t0 t1 t2 b60 b61 b62 b70 b71 b72 b80 b81 b82 b90 b91 b92 y0 y1 y2 z0 z1 z2
        replace N6 := N6.putE a (⟨0, (xA : Int), (xA : Int)⟩ : E3) F6.n0; replace N7 := N7.putE a (⟨0, (xA : Int), (xA : Int)⟩ : E3) F7.n0; replace N8 := N8.putE a (⟨0, (xA : Int), (xA : Int)⟩ : E3) F8.n0; replace N9 := N9.putE a (⟨0, (xA : Int), (xA : Int)⟩ : E3) F9.n0
        have G2 := G.setX a ha (⟨0, (xA : Int), (xA : Int)⟩ : E3)
        clear G
        rw [show (((wc.setCell ⟨g0, a * 3, none⟩ (.int .i64 0)).setCell ⟨g0, a * 3 + 1, none⟩ (.int .i64 (xA : Int))).setCell ⟨g0, a * 3 + 2, none⟩ (.int .i64 (xA : Int))) = put3 wc g0 a (⟨0, (xA : Int), (xA : Int)⟩ : E3) from rfl]
        generalize put3 wc g0 a (⟨0, (xA : Int), (xA : Int)⟩ : E3) = wy at *
        obtain ⟨wc, rfl⟩ : ∃ x : World, x = wy := ⟨_, rfl⟩
        have G := G2; clear G2
        have x0 := G.P.c0; have t0 := G.T.c0; have t1 := G.T.c1; have t2 := G.T.c2; have r0 := G.R.c0; have r1 := G.R.c1; have r2 := G.R.c2; have f0 := G.R.f0; have f1 := G.R.f1; have f2 := G.R.f2
        have hZ := box_set3 (.int .i64 (n : Int)) (.slice (some ⟨g0, 0, none⟩) n p0) (.slice (some ⟨g1, 0, none⟩) n p1) r0 r1 r2
        go_wp2_with fail
        have eX : ((idX n).set a (⟨0, (xA : Int), (xA : Int)⟩ : E3)) = pes (gtX n 5 a b) := by
          rw [show gtX n 5 a b = ((idPX n).set a (⟨0, xA, xA⟩ : PN)) from by (try rw [HO.out]); (try rw [HA.out]); (try rw [HB.out]); rfl]
          (try rw [← set_pes]); (try rw [← set_pes]); (try rw [← idX_pes]); (try rfl)
        have eZ : (idZ n) = pes (gtZ n 5 a b) := by
          rw [show gtZ n 5 a b = (idPZ n) from by (try rw [HO.out]); (try rw [HA.out]); (try rw [HB.out]); rfl]
          (try rw [← set_pes]); (try rw [← set_pes]); (try rw [← idZ_pes]); (try rfl)
        exact bodyPost_ret (v := .agg #[.int .i64 (n : Int), .slice (some ⟨g0, 0, none⟩) n p0, .slice (some ⟨g1, 0, none⟩) n p1]) (by simp [results, Tryz.results68, go_sem, hZ]) rfl ((GSt.done G _ _ _).eq eX eZ)
      · clear HNE
        have x0 := G.P.c0; have x1 := G.P.c1; have x2 := G.P.c2; have t0 := G.T.c0; have t1 := G.T.c1; have t2 := G.T.c2
        have b60 := N6.c0; have b61 := N6.c1; have b62 := N6.c2
        have b70 := N7.c0; have b71 := N7.c1; have b72 := N7.c2
        have b80 := N8.c0; have b81 := N8.c1; have b82 := N8.c2
        have b90 := N9.c0; have b91 := N9.c1; have b92 := N9.c2
        obtain ⟨y0, y1, y2⟩ := G.O0.cell a ha; have z0 := G.O0.frz (a * 3); have z1 := G.O0.frz (a * 3 + 1); have z2 := G.O0.frz (a * 3 + 2)
        go_upto_region 18 with fail
        clear x0 x1 x2 t0 t1 t2 b60 b61 b62 b70 b71 b72 b80 b81 b82 b90 b91 b92 y0 y1 y2 z0 z1 z2
        replace N6 := N6.putE a (⟨0, (xA : Int), (xA : Int)⟩ : E3) F6.n0; replace N7 := N7.putE a (⟨0, (xA : Int), (xA : Int)⟩ : E3) F7.n0; replace N8 := N8.putE a (⟨0, (xA : Int), (xA : Int)⟩ : E3) F8.n0; replace N9 := N9.putE a (⟨0, (xA : Int), (xA : Int)⟩ : E3) F9.n0
        have G2 := G.setX a ha (⟨0, (xA : Int), (xA : Int)⟩ : E3)
        clear G
        rw [show (((wc.setCell ⟨g0, a * 3, none⟩ (.int .i64 0)).setCell ⟨g0, a * 3 + 1, none⟩ (.int .i64 (xA : Int))).setCell ⟨g0, a * 3 + 2, none⟩ (.int .i64 (xA : Int))) = put3 wc g0 a (⟨0, (xA : Int), (xA : Int)⟩ : E3) from rfl]
        generalize put3 wc g0 a (⟨0, (xA : Int), (xA : Int)⟩ : E3) = wy at *
        obtain ⟨wc, rfl⟩ : ∃ x : World, x = wy := ⟨_, rfl⟩
        have G := G2; clear G2
        have x0 := G.P.c0; have x1 := G.P.c1; have x2 := G.P.c2; have t0 := G.T.c0; have t1 := G.T.c1; have t2 := G.T.c2
        have b60 := N6.c0; have b61 := N6.c1; have b62 := N6.c2
        have b70 := N7.c0; have b71 := N7.c1; have b72 := N7.c2
        have b80 := N8.c0; have b81 := N8.c1; have b82 := N8.c2
        have b90 := N9.c0; have b91 := N9.c1; have b92 := N9.c2
        obtain ⟨y0, y1, y2⟩ := G.O0.cell a ha; have z0 := G.O0.frz (a * 3); have z1 := G.O0.frz (a * 3 + 1); have z2 := G.O0.frz (a * 3 + 2)
        go_upto_region 31 with fail
        clear x0 x1 x2 t0 t1 t2 b60 b61 b62 b70 b71 b72 b80 b81 b82 b90 b91 b92 y0 y1 y2 z0 z1 z2
        replace N6 := N6.ph (a * 3) (.int .i64 2) F6.n0; replace N7 := N7.ph (a * 3) (.int .i64 2) F7.n0; replace N8 := N8.ph (a * 3) (.int .i64 2) F8.n0; replace N9 := N9.ph (a * 3) (.int .i64 2) F9.n0
        have G2 : GSt w (wc.setCell ⟨g0, a * 3, none⟩ (.int .i64 2)) w.heap.size n 6 a b gT g0 p0 g1 p1 ((idX n).set a (⟨2, (xA : Int), (xA : Int)⟩ : E3)) (idZ n) := by have h := G.phX a ha 2; rw [E3set_get (by rw [idX_len]; exact ha), List.set_set] at h; exact h
        clear G
        generalize wc.setCell ⟨g0, a * 3, none⟩ (.int .i64 2) = wy at *
        obtain ⟨wc, rfl⟩ : ∃ x : World, x = wy := ⟨_, rfl⟩
        have G := G2; clear G2
        have x0 := G.P.c0; have t0 := G.T.c0; have t1 := G.T.c1; have t2 := G.T.c2; have r0 := G.R.c0; have r1 := G.R.c1; have r2 := G.R.c2; have f0 := G.R.f0; have f1 := G.R.f1; have f2 := G.R.f2
        have hZ := box_set3 (.int .i64 (n : Int)) (.slice (some ⟨g0, 0, none⟩) n p0) (.slice (some ⟨g1, 0, none⟩) n p1) r0 r1 r2
        go_wp2_with fail
        have eX : ((idX n).set a (⟨2, (xA : Int), (xA : Int)⟩ : E3)) = pes (gtX n 6 a b) := by
          rw [show gtX n 6 a b = ((idPX n).set a (⟨2, xA, xA⟩ : PN)) from by (try rw [HO.out]); (try rw [HA.out]); (try rw [HB.out]); rfl]
          (try rw [← set_pes]); (try rw [← set_pes]); (try rw [← idX_pes]); (try rfl)
        have eZ : (idZ n) = pes (gtZ n 6 a b) := by
          rw [show gtZ n 6 a b = (idPZ n) from by (try rw [HO.out]); (try rw [HA.out]); (try rw [HB.out]); rfl]
          (try rw [← set_pes]); (try rw [← set_pes]); (try rw [← idZ_pes]); (try rfl)
        exact bodyPost_ret (v := .agg #[.int .i64 (n : Int), .slice (some ⟨g0, 0, none⟩) n p0, .slice (some ⟨g1, 0, none⟩) n p1]) (by simp [results, Tryz.results68, go_sem, hZ]) rfl ((GSt.done G _ _ _).eq eX eZ)
      · have hab : a ≠ b := HNE.out (by omega) (by omega)
        obtain ⟨m1, m2, m3, m4⟩ := mul_pow (by omega) (by omega) hab HA.out HB.out
        clear HNE
        obtain ⟨xO, hxO⟩ : ∃ x, x = xA ||| xB := ⟨_, rfl⟩
        rw [← hxO] at m1 m2
        have HO := Lib.hid hxO; clear hxO
        have M1 := Lib.hid m1; have M2 := Lib.hid m2; have M3 := Lib.hid m3; have M4 := Lib.hid m4; clear m1 m2 m3 m4
        have x0 := G.P.c0; have x1 := G.P.c1; have x2 := G.P.c2; have t0 := G.T.c0; have t1 := G.T.c1; have t2 := G.T.c2
        have b60 := N6.c0; have b61 := N6.c1; have b62 := N6.c2
        have b70 := N7.c0; have b71 := N7.c1; have b72 := N7.c2
        have b80 := N8.c0; have b81 := N8.c1; have b82 := N8.c2
        have b90 := N9.c0; have b91 := N9.c1; have b92 := N9.c2
        go_upto_region 21 with fail
        clear x0 x1 x2 t0 t1 t2 b60 b61 b62 b70 b71 b72 b80 b81 b82 b90 b91 b92
        replace G := G.drew; replace N6 := N6.drew; replace N7 := N7.drew; replace N8 := N8.drew; replace N9 := N9.drew
        refine AnyB.begin (S := (fun w' => w'.cell? ⟨gT, 1, none⟩ = some (.slice (some ⟨g0, 0, none⟩) n p0) ∧ w'.cell? ⟨w.heap.size, 1, none⟩ = some (.int .i64 (a : Int)) ∧ w'.cell? ⟨g6, 0, none⟩ = some (.int .i64 0) ∧ w'.cell? ⟨g6, 1, none⟩ = some (.int .i64 (xA : Int)) ∧ w'.cell? ⟨g6, 2, none⟩ = some (.int .i64 0) ∧ w'.cell? ⟨g8, 0, none⟩ = some (.int .i64 0) ∧ w'.cell? ⟨g8, 1, none⟩ = some (.int .i64 (xB : Int)) ∧ w'.cell? ⟨g8, 2, none⟩ = some (.int .i64 0))) [8] (by kernel_rfl) ?_ (fun hHeld0 => ?_)
        · ((try dsimp only); (first | exact ⟨G.T.c1, G.P.c1, N6.c0, N6.c1, N6.c2, N8.c0, N8.c1, N8.c2⟩))
        refine AnyB.tq (i := 0) (h := ?_)
        refine AnyB.tk (i := 1) (h := ?_)
        refine AnyB.tq (i := 2) (h := ?_)
        refine AnyB.tk (i := 3) (h := ?_)
        refine AnyB.tk (i := 4) (h := ?_)
        refine AnyB.tk (i := 5) (h := ?_)
        refine AnyB.each (rs := [6]) (by kernel_rfl) (by simp) ?_
        refine EachB.cons rfl (fun K hK hB => ?_) ?_
        · skip
          (go_simp; go_at_call 75; refine (M1.out _).mono ?_; rintro e wd ⟨rfl, hbd⟩; replace G := G.call hbd; replace N6 := N6.call hbd; replace N7 := N7.call hbd; replace N8 := N8.call hbd; replace N9 := N9.call hbd; clear hbd; obtain ⟨y0, y1, y2⟩ := G.O0.cell a ha; have z0 := G.O0.frz (a * 3); have z1 := G.O0.frz (a * 3 + 1); have z2 := G.O0.frz (a * 3 + 2); dsimp only)
          refine hK.out _ _ ?_ (fun hHeld1 => ?_)
          · ((try dsimp only); (first | exact ⟨G.T.c1, G.P.c1, N6.c0, N6.c1, N6.c2, N8.c0, N8.c1, N8.c2⟩))
          clear hB hK K hHeld0
          refine AnyB.tq (i := 7) (h := ?_)
          refine AnyB.each (rs := [8]) (by kernel_rfl) (by simp) ?_
          refine EachB.cons rfl (fun K hK hB => ?_) ?_
          · skip
            go_simp
            refine hB.out _ _ rfl ?_
            clear hB hK K
            refine AnyB.none (by kernel_rfl) ?_ _
            clear y0 y1 y2 z0 z1 z2
            replace N6 := N6.putE a (⟨0, (xO : Int), 0⟩ : E3) F6.n0; replace N7 := N7.putE a (⟨0, (xO : Int), 0⟩ : E3) F7.n0; replace N8 := N8.putE a (⟨0, (xO : Int), 0⟩ : E3) F8.n0; replace N9 := N9.putE a (⟨0, (xO : Int), 0⟩ : E3) F9.n0
            have G2 := G.setX a ha (⟨0, (xO : Int), 0⟩ : E3)
            clear G
            rw [show (((wd.setCell ⟨g0, a * 3, none⟩ (.int .i64 0)).setCell ⟨g0, a * 3 + 1, none⟩ (.int .i64 (xO : Int))).setCell ⟨g0, a * 3 + 2, none⟩ (.int .i64 0)) = put3 wd g0 a (⟨0, (xO : Int), 0⟩ : E3) from rfl]
            generalize put3 wd g0 a (⟨0, (xO : Int), 0⟩ : E3) = wy at *
            obtain ⟨wc, rfl⟩ : ∃ x : World, x = wy := ⟨_, rfl⟩
            have G := G2; clear G2
            have x0 := G.P.c0; have x1 := G.P.c1; have x2 := G.P.c2; have t0 := G.T.c0; have t1 := G.T.c1; have t2 := G.T.c2
            have b60 := N6.c0; have b61 := N6.c1; have b62 := N6.c2
            have b70 := N7.c0; have b71 := N7.c1; have b72 := N7.c2
            have b80 := N8.c0; have b81 := N8.c1; have b82 := N8.c2
            have b90 := N9.c0; have b91 := N9.c1; have b92 := N9.c2
            go_upto_region 22 with fail
            clear x0 x1 x2 t0 t1 t2 b60 b61 b62 b70 b71 b72 b80 b81 b82 b90 b91 b92
            replace G := G.drew; replace N6 := N6.drew; replace N7 := N7.drew; replace N8 := N8.drew; replace N9 := N9.drew
            refine AnyB.begin (S := (fun w' => w'.cell? ⟨gT, 2, none⟩ = some (.slice (some ⟨g1, 0, none⟩) n p1) ∧ w'.cell? ⟨w.heap.size, 2, none⟩ = some (.int .i64 (b : Int)) ∧ w'.cell? ⟨g7, 0, none⟩ = some (.int .i64 0) ∧ w'.cell? ⟨g7, 1, none⟩ = some (.int .i64 0) ∧ w'.cell? ⟨g7, 2, none⟩ = some (.int .i64 (xA : Int)) ∧ w'.cell? ⟨g9, 0, none⟩ = some (.int .i64 0) ∧ w'.cell? ⟨g9, 1, none⟩ = some (.int .i64 0) ∧ w'.cell? ⟨g9, 2, none⟩ = some (.int .i64 (xB : Int)))) [8] (by kernel_rfl) ?_ (fun hHeld0 => ?_)
            · ((try dsimp only); (first | exact ⟨G.T.c2, G.P.c2, N7.c0, N7.c1, N7.c2, N9.c0, N9.c1, N9.c2⟩))
            refine AnyB.tq (i := 0) (h := ?_)
            refine AnyB.tk (i := 1) (h := ?_)
            refine AnyB.tq (i := 2) (h := ?_)
            refine AnyB.tk (i := 3) (h := ?_)
            refine AnyB.tk (i := 4) (h := ?_)
            refine AnyB.tk (i := 5) (h := ?_)
            refine AnyB.each (rs := [6]) (by kernel_rfl) (by simp) ?_
            refine EachB.cons rfl (fun K hK hB => ?_) ?_
            · skip
              (go_simp; go_at_call 75; refine (M2.out _).mono ?_; rintro e wd ⟨rfl, hbd⟩; replace G := G.call hbd; replace N6 := N6.call hbd; replace N7 := N7.call hbd; replace N8 := N8.call hbd; replace N9 := N9.call hbd; clear hbd; obtain ⟨y0, y1, y2⟩ := G.O1.cell b hb; have z0 := G.O1.frz (b * 3); have z1 := G.O1.frz (b * 3 + 1); have z2 := G.O1.frz (b * 3 + 2); dsimp only)
              refine hK.out _ _ ?_ (fun hHeld1 => ?_)
              · ((try dsimp only); (first | exact ⟨G.T.c2, G.P.c2, N7.c0, N7.c1, N7.c2, N9.c0, N9.c1, N9.c2⟩))
              clear hB hK K hHeld0
              refine AnyB.tq (i := 7) (h := ?_)
              refine AnyB.each (rs := [8]) (by kernel_rfl) (by simp) ?_
              refine EachB.cons rfl (fun K hK hB => ?_) ?_
              · skip
                go_simp
                refine hB.out _ _ rfl ?_
                clear hB hK K
                refine AnyB.none (by kernel_rfl) ?_ _
                clear y0 y1 y2 z0 z1 z2
                have G2 := G.setZ b hb (⟨0, 0, (xO : Int)⟩ : E3)
                clear G N6 N7 N8 N9
                rw [show (((wd.setCell ⟨g1, b * 3, none⟩ (.int .i64 0)).setCell ⟨g1, b * 3 + 1, none⟩ (.int .i64 0)).setCell ⟨g1, b * 3 + 2, none⟩ (.int .i64 (xO : Int))) = put3 wd g1 b (⟨0, 0, (xO : Int)⟩ : E3) from rfl]
                generalize put3 wd g1 b (⟨0, 0, (xO : Int)⟩ : E3) = wy at *
                obtain ⟨wc, rfl⟩ : ∃ x : World, x = wy := ⟨_, rfl⟩
                have G := G2; clear G2
                have x0 := G.P.c0; have t0 := G.T.c0; have t1 := G.T.c1; have t2 := G.T.c2; have r0 := G.R.c0; have r1 := G.R.c1; have r2 := G.R.c2; have f0 := G.R.f0; have f1 := G.R.f1; have f2 := G.R.f2
                have hZ := box_set3 (.int .i64 (n : Int)) (.slice (some ⟨g0, 0, none⟩) n p0) (.slice (some ⟨g1, 0, none⟩) n p1) r0 r1 r2
                go_wp2_with fail
                have eX : ((idX n).set a (⟨0, (xO : Int), 0⟩ : E3)) = pes (gtX n 9 a b) := by
                  rw [show gtX n 9 a b = ((idPX n).set a (⟨0, xO, 0⟩ : PN)) from by (try rw [HO.out]); (try rw [HA.out]); (try rw [HB.out]); rfl]
                  (try rw [← set_pes]); (try rw [← set_pes]); (try rw [← idX_pes]); (try rfl)
                have eZ : ((idZ n).set b (⟨0, 0, (xO : Int)⟩ : E3)) = pes (gtZ n 9 a b) := by
                  rw [show gtZ n 9 a b = ((idPZ n).set b (⟨0, 0, xO⟩ : PN)) from by (try rw [HO.out]); (try rw [HA.out]); (try rw [HB.out]); rfl]
                  (try rw [← set_pes]); (try rw [← set_pes]); (try rw [← idZ_pes]); (try rfl)
                exact bodyPost_ret (v := .agg #[.int .i64 (n : Int), .slice (some ⟨g0, 0, none⟩) n p0, .slice (some ⟨g1, 0, none⟩) n p1]) (by simp [results, Tryz.results68, go_sem, hZ]) rfl ((GSt.done G _ _ _).eq eX eZ)
              exact EachB.nil
            exact EachB.nil
          exact EachB.nil
        exact EachB.nil
      · have hab : a ≠ b := HNE.out (by omega) (by omega)
        obtain ⟨m1, m2, m3, m4⟩ := mul_pow (by omega) (by omega) hab HA.out HB.out
        clear HNE
        have M1 := Lib.hid m1; have M2 := Lib.hid m2; have M3 := Lib.hid m3; have M4 := Lib.hid m4; clear m1 m2 m3 m4
        have x0 := G.P.c0; have x1 := G.P.c1; have x2 := G.P.c2; have t0 := G.T.c0; have t1 := G.T.c1; have t2 := G.T.c2
        have b60 := N6.c0; have b61 := N6.c1; have b62 := N6.c2
        have b70 := N7.c0; have b71 := N7.c1; have b72 := N7.c2
        have b80 := N8.c0; have b81 := N8.c1; have b82 := N8.c2
        have b90 := N9.c0; have b91 := N9.c1; have b92 := N9.c2
        go_upto_region 24 with fail
        clear x0 x1 x2 t0 t1 t2 b60 b61 b62 b70 b71 b72 b80 b81 b82 b90 b91 b92
        replace G := G.drew; replace N6 := N6.drew; replace N7 := N7.drew; replace N8 := N8.drew; replace N9 := N9.drew
        refine AnyB.begin (S := (fun w' => w'.cell? ⟨gT, 1, none⟩ = some (.slice (some ⟨g0, 0, none⟩) n p0) ∧ w'.cell? ⟨w.heap.size, 1, none⟩ = some (.int .i64 (a : Int)) ∧ w'.cell? ⟨g6, 0, none⟩ = some (.int .i64 0) ∧ w'.cell? ⟨g6, 1, none⟩ = some (.int .i64 (xA : Int)) ∧ w'.cell? ⟨g6, 2, none⟩ = some (.int .i64 0) ∧ w'.cell? ⟨g9, 0, none⟩ = some (.int .i64 0) ∧ w'.cell? ⟨g9, 1, none⟩ = some (.int .i64 0) ∧ w'.cell? ⟨g9, 2, none⟩ = some (.int .i64 (xB : Int)))) [8] (by kernel_rfl) ?_ (fun hHeld0 => ?_)
        · ((try dsimp only); (first | exact ⟨G.T.c1, G.P.c1, N6.c0, N6.c1, N6.c2, N9.c0, N9.c1, N9.c2⟩))
        refine AnyB.tq (i := 0) (h := ?_)
        refine AnyB.tk (i := 1) (h := ?_)
        refine AnyB.tq (i := 2) (h := ?_)
        refine AnyB.tk (i := 3) (h := ?_)
        refine AnyB.tk (i := 4) (h := ?_)
        refine AnyB.tk (i := 5) (h := ?_)
        refine AnyB.each (rs := [6]) (by kernel_rfl) (by simp) ?_
        refine EachB.cons rfl (fun K hK hB => ?_) ?_
        · skip
          (go_simp; go_at_call 75; refine (M3.out _).mono ?_; rintro e wd ⟨rfl, hbd⟩; replace G := G.call hbd; replace N6 := N6.call hbd; replace N7 := N7.call hbd; replace N8 := N8.call hbd; replace N9 := N9.call hbd; clear hbd; obtain ⟨y0, y1, y2⟩ := G.O0.cell a ha; have z0 := G.O0.frz (a * 3); have z1 := G.O0.frz (a * 3 + 1); have z2 := G.O0.frz (a * 3 + 2); dsimp only)
          refine hK.out _ _ ?_ (fun hHeld1 => ?_)
          · ((try dsimp only); (first | exact ⟨G.T.c1, G.P.c1, N6.c0, N6.c1, N6.c2, N9.c0, N9.c1, N9.c2⟩))
          clear hB hK K hHeld0
          refine AnyB.tq (i := 7) (h := ?_)
          refine AnyB.each (rs := [8]) (by kernel_rfl) (by simp) ?_
          refine EachB.cons rfl (fun K hK hB => ?_) ?_
          · skip
            go_simp
            refine hB.out _ _ rfl ?_
            clear hB hK K
            refine AnyB.none (by kernel_rfl) ?_ _
            clear y0 y1 y2 z0 z1 z2
            replace N6 := N6.putE a (⟨0, (xA : Int), (xB : Int)⟩ : E3) F6.n0; replace N7 := N7.putE a (⟨0, (xA : Int), (xB : Int)⟩ : E3) F7.n0; replace N8 := N8.putE a (⟨0, (xA : Int), (xB : Int)⟩ : E3) F8.n0; replace N9 := N9.putE a (⟨0, (xA : Int), (xB : Int)⟩ : E3) F9.n0
            have G2 := G.setX a ha (⟨0, (xA : Int), (xB : Int)⟩ : E3)
            clear G
            rw [show (((wd.setCell ⟨g0, a * 3, none⟩ (.int .i64 0)).setCell ⟨g0, a * 3 + 1, none⟩ (.int .i64 (xA : Int))).setCell ⟨g0, a * 3 + 2, none⟩ (.int .i64 (xB : Int))) = put3 wd g0 a (⟨0, (xA : Int), (xB : Int)⟩ : E3) from rfl]
            generalize put3 wd g0 a (⟨0, (xA : Int), (xB : Int)⟩ : E3) = wy at *
            obtain ⟨wc, rfl⟩ : ∃ x : World, x = wy := ⟨_, rfl⟩
            have G := G2; clear G2
            have x0 := G.P.c0; have x1 := G.P.c1; have x2 := G.P.c2; have t0 := G.T.c0; have t1 := G.T.c1; have t2 := G.T.c2
            have b60 := N6.c0; have b61 := N6.c1; have b62 := N6.c2
            have b70 := N7.c0; have b71 := N7.c1; have b72 := N7.c2
            have b80 := N8.c0; have b81 := N8.c1; have b82 := N8.c2
            have b90 := N9.c0; have b91 := N9.c1; have b92 := N9.c2
            go_upto_region 25 with fail
            clear x0 x1 x2 t0 t1 t2 b60 b61 b62 b70 b71 b72 b80 b81 b82 b90 b91 b92
            replace G := G.drew; replace N6 := N6.drew; replace N7 := N7.drew; replace N8 := N8.drew; replace N9 := N9.drew
            refine AnyB.begin (S := (fun w' => w'.cell? ⟨gT, 1, none⟩ = some (.slice (some ⟨g0, 0, none⟩) n p0) ∧ w'.cell? ⟨w.heap.size, 2, none⟩ = some (.int .i64 (b : Int)) ∧ w'.cell? ⟨g7, 0, none⟩ = some (.int .i64 0) ∧ w'.cell? ⟨g7, 1, none⟩ = some (.int .i64 0) ∧ w'.cell? ⟨g7, 2, none⟩ = some (.int .i64 (xA : Int)) ∧ w'.cell? ⟨g8, 0, none⟩ = some (.int .i64 0) ∧ w'.cell? ⟨g8, 1, none⟩ = some (.int .i64 (xB : Int)) ∧ w'.cell? ⟨g8, 2, none⟩ = some (.int .i64 0))) [8] (by kernel_rfl) ?_ (fun hHeld0 => ?_)
            · ((try dsimp only); (first | exact ⟨G.T.c1, G.P.c2, N7.c0, N7.c1, N7.c2, N8.c0, N8.c1, N8.c2⟩))
            refine AnyB.tq (i := 0) (h := ?_)
            refine AnyB.tk (i := 1) (h := ?_)
            refine AnyB.tq (i := 2) (h := ?_)
            refine AnyB.tk (i := 3) (h := ?_)
            refine AnyB.tk (i := 4) (h := ?_)
            refine AnyB.tk (i := 5) (h := ?_)
            refine AnyB.each (rs := [6]) (by kernel_rfl) (by simp) ?_
            refine EachB.cons rfl (fun K hK hB => ?_) ?_
            · skip
              (go_simp; go_at_call 75; refine (M4.out _).mono ?_; rintro e wd ⟨rfl, hbd⟩; replace G := G.call hbd; replace N6 := N6.call hbd; replace N7 := N7.call hbd; replace N8 := N8.call hbd; replace N9 := N9.call hbd; clear hbd; obtain ⟨y0, y1, y2⟩ := G.O0.cell b hb; have z0 := G.O0.frz (b * 3); have z1 := G.O0.frz (b * 3 + 1); have z2 := G.O0.frz (b * 3 + 2); dsimp only)
              refine hK.out _ _ ?_ (fun hHeld1 => ?_)
              · ((try dsimp only); (first | exact ⟨G.T.c1, G.P.c2, N7.c0, N7.c1, N7.c2, N8.c0, N8.c1, N8.c2⟩))
              clear hB hK K hHeld0
              refine AnyB.tq (i := 7) (h := ?_)
              refine AnyB.each (rs := [8]) (by kernel_rfl) (by simp) ?_
              refine EachB.cons rfl (fun K hK hB => ?_) ?_
              · skip
                go_simp
                refine hB.out _ _ rfl ?_
                clear hB hK K
                refine AnyB.none (by kernel_rfl) ?_ _
                clear y0 y1 y2 z0 z1 z2
                have G2 := G.setX b hb (⟨0, (xB : Int), (xA : Int)⟩ : E3)
                clear G N6 N7 N8 N9
                rw [show (((wd.setCell ⟨g0, b * 3, none⟩ (.int .i64 0)).setCell ⟨g0, b * 3 + 1, none⟩ (.int .i64 (xB : Int))).setCell ⟨g0, b * 3 + 2, none⟩ (.int .i64 (xA : Int))) = put3 wd g0 b (⟨0, (xB : Int), (xA : Int)⟩ : E3) from rfl]
                generalize put3 wd g0 b (⟨0, (xB : Int), (xA : Int)⟩ : E3) = wy at *
                obtain ⟨wc, rfl⟩ : ∃ x : World, x = wy := ⟨_, rfl⟩
                have G := G2; clear G2
                have x0 := G.P.c0; have t0 := G.T.c0; have t1 := G.T.c1; have t2 := G.T.c2; have r0 := G.R.c0; have r1 := G.R.c1; have r2 := G.R.c2; have f0 := G.R.f0; have f1 := G.R.f1; have f2 := G.R.f2
                have hZ := box_set3 (.int .i64 (n : Int)) (.slice (some ⟨g0, 0, none⟩) n p0) (.slice (some ⟨g1, 0, none⟩) n p1) r0 r1 r2
                go_wp2_with fail
                have eX : (((idX n).set a (⟨0, (xA : Int), (xB : Int)⟩ : E3)).set b (⟨0, (xB : Int), (xA : Int)⟩ : E3)) = pes (gtX n 10 a b) := by
                  rw [show gtX n 10 a b = (((idPX n).set a (⟨0, xA, xB⟩ : PN)).set b (⟨0, xB, xA⟩ : PN)) from by (try rw [HO.out]); (try rw [HA.out]); (try rw [HB.out]); rfl]
                  (try rw [← set_pes]); (try rw [← set_pes]); (try rw [← idX_pes]); (try rfl)
                have eZ : (idZ n) = pes (gtZ n 10 a b) := by
                  rw [show gtZ n 10 a b = (idPZ n) from by (try rw [HO.out]); (try rw [HA.out]); (try rw [HB.out]); rfl]
                  (try rw [← set_pes]); (try rw [← set_pes]); (try rw [← idZ_pes]); (try rfl)
                exact bodyPost_ret (v := .agg #[.int .i64 (n : Int), .slice (some ⟨g0, 0, none⟩) n p0, .slice (some ⟨g1, 0, none⟩) n p1]) (by simp [results, Tryz.results68, go_sem, hZ]) rfl ((GSt.done G _ _ _).eq eX eZ)
              exact EachB.nil
            exact EachB.nil
          exact EachB.nil
        exact EachB.nil
      · have hab : a ≠ b := HNE.out (by omega) (by omega)
        clear HNE
        have x0 := G.P.c0; have x1 := G.P.c1; have x2 := G.P.c2; have t0 := G.T.c0; have t1 := G.T.c1; have t2 := G.T.c2
        have b60 := N6.c0; have b61 := N6.c1; have b62 := N6.c2
        have b70 := N7.c0; have b71 := N7.c1; have b72 := N7.c2
        have b80 := N8.c0; have b81 := N8.c1; have b82 := N8.c2
        have b90 := N9.c0; have b91 := N9.c1; have b92 := N9.c2
        obtain ⟨y0, y1, y2⟩ := G.O0.cell a ha; have z0 := G.O0.frz (a * 3); have z1 := G.O0.frz (a * 3 + 1); have z2 := G.O0.frz (a * 3 + 2)
        go_upto_region 28 with fail
        clear x0 x1 x2 t0 t1 t2 b60 b61 b62 b70 b71 b72 b80 b81 b82 b90 b91 b92 y0 y1 y2 z0 z1 z2
        replace N6 := N6.putE a (⟨0, (xB : Int), 0⟩ : E3) F6.n0; replace N7 := N7.putE a (⟨0, (xB : Int), 0⟩ : E3) F7.n0; replace N8 := N8.putE a (⟨0, (xB : Int), 0⟩ : E3) F8.n0; replace N9 := N9.putE a (⟨0, (xB : Int), 0⟩ : E3) F9.n0
        have G2 := G.setX a ha (⟨0, (xB : Int), 0⟩ : E3)
        clear G
        rw [show (((wc.setCell ⟨g0, a * 3, none⟩ (.int .i64 0)).setCell ⟨g0, a * 3 + 1, none⟩ (.int .i64 (xB : Int))).setCell ⟨g0, a * 3 + 2, none⟩ (.int .i64 0)) = put3 wc g0 a (⟨0, (xB : Int), 0⟩ : E3) from rfl]
        generalize put3 wc g0 a (⟨0, (xB : Int), 0⟩ : E3) = wy at *
        obtain ⟨wc, rfl⟩ : ∃ x : World, x = wy := ⟨_, rfl⟩
        have G := G2; clear G2
        have x0 := G.P.c0; have x1 := G.P.c1; have x2 := G.P.c2; have t0 := G.T.c0; have t1 := G.T.c1; have t2 := G.T.c2
        have b60 := N6.c0; have b61 := N6.c1; have b62 := N6.c2
        have b70 := N7.c0; have b71 := N7.c1; have b72 := N7.c2
        have b80 := N8.c0; have b81 := N8.c1; have b82 := N8.c2
        have b90 := N9.c0; have b91 := N9.c1; have b92 := N9.c2
        obtain ⟨y0, y1, y2⟩ := G.O0.cell b hb; have z0 := G.O0.frz (b * 3); have z1 := G.O0.frz (b * 3 + 1); have z2 := G.O0.frz (b * 3 + 2)
        go_upto_region 29 with fail
        clear x0 x1 x2 t0 t1 t2 b60 b61 b62 b70 b71 b72 b80 b81 b82 b90 b91 b92 y0 y1 y2 z0 z1 z2
        replace N6 := N6.putE b (⟨0, (xA : Int), 0⟩ : E3) F6.n0; replace N7 := N7.putE b (⟨0, (xA : Int), 0⟩ : E3) F7.n0; replace N8 := N8.putE b (⟨0, (xA : Int), 0⟩ : E3) F8.n0; replace N9 := N9.putE b (⟨0, (xA : Int), 0⟩ : E3) F9.n0
        have G2 := G.setX b hb (⟨0, (xA : Int), 0⟩ : E3)
        clear G
        rw [show (((wc.setCell ⟨g0, b * 3, none⟩ (.int .i64 0)).setCell ⟨g0, b * 3 + 1, none⟩ (.int .i64 (xA : Int))).setCell ⟨g0, b * 3 + 2, none⟩ (.int .i64 0)) = put3 wc g0 b (⟨0, (xA : Int), 0⟩ : E3) from rfl]
        generalize put3 wc g0 b (⟨0, (xA : Int), 0⟩ : E3) = wy at *
        obtain ⟨wc, rfl⟩ : ∃ x : World, x = wy := ⟨_, rfl⟩
        have G := G2; clear G2
        have x0 := G.P.c0; have x1 := G.P.c1; have x2 := G.P.c2; have t0 := G.T.c0; have t1 := G.T.c1; have t2 := G.T.c2
        have b60 := N6.c0; have b61 := N6.c1; have b62 := N6.c2
        have b70 := N7.c0; have b71 := N7.c1; have b72 := N7.c2
        have b80 := N8.c0; have b81 := N8.c1; have b82 := N8.c2
        have b90 := N9.c0; have b91 := N9.c1; have b92 := N9.c2
        obtain ⟨y0, y1, y2⟩ := G.O1.cell a ha; have z0 := G.O1.frz (a * 3); have z1 := G.O1.frz (a * 3 + 1); have z2 := G.O1.frz (a * 3 + 2)
        go_upto_region 30 with fail
        clear x0 x1 x2 t0 t1 t2 b60 b61 b62 b70 b71 b72 b80 b81 b82 b90 b91 b92 y0 y1 y2 z0 z1 z2
        replace N6 := N6.putE a (⟨0, 0, (xB : Int)⟩ : E3) F6.n1; replace N7 := N7.putE a (⟨0, 0, (xB : Int)⟩ : E3) F7.n1; replace N8 := N8.putE a (⟨0, 0, (xB : Int)⟩ : E3) F8.n1; replace N9 := N9.putE a (⟨0, 0, (xB : Int)⟩ : E3) F9.n1
        have G2 := G.setZ a ha (⟨0, 0, (xB : Int)⟩ : E3)
        clear G
        rw [show (((wc.setCell ⟨g1, a * 3, none⟩ (.int .i64 0)).setCell ⟨g1, a * 3 + 1, none⟩ (.int .i64 0)).setCell ⟨g1, a * 3 + 2, none⟩ (.int .i64 (xB : Int))) = put3 wc g1 a (⟨0, 0, (xB : Int)⟩ : E3) from rfl]
        generalize put3 wc g1 a (⟨0, 0, (xB : Int)⟩ : E3) = wy at *
        obtain ⟨wc, rfl⟩ : ∃ x : World, x = wy := ⟨_, rfl⟩
        have G := G2; clear G2
        have x0 := G.P.c0; have x1 := G.P.c1; have x2 := G.P.c2; have t0 := G.T.c0; have t1 := G.T.c1; have t2 := G.T.c2
        have b60 := N6.c0; have b61 := N6.c1; have b62 := N6.c2
        have b70 := N7.c0; have b71 := N7.c1; have b72 := N7.c2
        have b80 := N8.c0; have b81 := N8.c1; have b82 := N8.c2
        have b90 := N9.c0; have b91 := N9.c1; have b92 := N9.c2
        obtain ⟨y0, y1, y2⟩ := G.O1.cell b hb; have z0 := G.O1.frz (b * 3); have z1 := G.O1.frz (b * 3 + 1); have z2 := G.O1.frz (b * 3 + 2)
        go_upto_region 31 with fail
        clear x0 x1 x2 t0 t1 t2 b60 b61 b62 b70 b71 b72 b80 b81 b82 b90 b91 b92 y0 y1 y2 z0 z1 z2
        replace N6 := N6.putE b (⟨0, 0, (xA : Int)⟩ : E3) F6.n1; replace N7 := N7.putE b (⟨0, 0, (xA : Int)⟩ : E3) F7.n1; replace N8 := N8.putE b (⟨0, 0, (xA : Int)⟩ : E3) F8.n1; replace N9 := N9.putE b (⟨0, 0, (xA : Int)⟩ : E3) F9.n1
        have G2 := G.setZ b hb (⟨0, 0, (xA : Int)⟩ : E3)
        clear G
        rw [show (((wc.setCell ⟨g1, b * 3, none⟩ (.int .i64 0)).setCell ⟨g1, b * 3 + 1, none⟩ (.int .i64 0)).setCell ⟨g1, b * 3 + 2, none⟩ (.int .i64 (xA : Int))) = put3 wc g1 b (⟨0, 0, (xA : Int)⟩ : E3) from rfl]
        generalize put3 wc g1 b (⟨0, 0, (xA : Int)⟩ : E3) = wy at *
        obtain ⟨wc, rfl⟩ : ∃ x : World, x = wy := ⟨_, rfl⟩
        have G := G2; clear G2
        have x0 := G.P.c0; have t0 := G.T.c0; have t1 := G.T.c1; have t2 := G.T.c2; have r0 := G.R.c0; have r1 := G.R.c1; have r2 := G.R.c2; have f0 := G.R.f0; have f1 := G.R.f1; have f2 := G.R.f2
        have hZ := box_set3 (.int .i64 (n : Int)) (.slice (some ⟨g0, 0, none⟩) n p0) (.slice (some ⟨g1, 0, none⟩) n p1) r0 r1 r2
        go_wp2_with fail
        have eX : (((idX n).set a (⟨0, (xB : Int), 0⟩ : E3)).set b (⟨0, (xA : Int), 0⟩ : E3)) = pes (gtX n 11 a b) := by
          rw [show gtX n 11 a b = (((idPX n).set a (⟨0, xB, 0⟩ : PN)).set b (⟨0, xA, 0⟩ : PN)) from by (try rw [HO.out]); (try rw [HA.out]); (try rw [HB.out]); rfl]
          (try rw [← set_pes]); (try rw [← set_pes]); (try rw [← idX_pes]); (try rfl)
        have eZ : (((idZ n).set a (⟨0, 0, (xB : Int)⟩ : E3)).set b (⟨0, 0, (xA : Int)⟩ : E3)) = pes (gtZ n 11 a b) := by
          rw [show gtZ n 11 a b = (((idPZ n).set a (⟨0, 0, xB⟩ : PN)).set b (⟨0, 0, xA⟩ : PN)) from by (try rw [HO.out]); (try rw [HA.out]); (try rw [HB.out]); rfl]
          (try rw [← set_pes]); (try rw [← set_pes]); (try rw [← idZ_pes]); (try rfl)
        exact bodyPost_ret (v := .agg #[.int .i64 (n : Int), .slice (some ⟨g0, 0, none⟩) n p0, .slice (some ⟨g1, 0, none⟩) n p1]) (by simp [results, Tryz.results68, go_sem, hZ]) rfl ((GSt.done G _ _ _).eq eX eZ)
      · clear HNE
        have x0 := G.P.c0; have t0 := G.T.c0; have t1 := G.T.c1; have t2 := G.T.c2; have r0 := G.R.c0; have r1 := G.R.c1; have r2 := G.R.c2; have f0 := G.R.f0; have f1 := G.R.f1; have f2 := G.R.f2
        have hZ := box_set3 (.int .i64 (n : Int)) (.slice (some ⟨g0, 0, none⟩) n p0) (.slice (some ⟨g1, 0, none⟩) n p1) r0 r1 r2
        go_wp2_with fail
        have eX : (idX n) = pes (gtX n 12 a b) := by
          rw [show gtX n 12 a b = (idPX n) from by (try rw [HO.out]); (try rw [HA.out]); (try rw [HB.out]); rfl]
          (try rw [← set_pes]); (try rw [← set_pes]); (try rw [← idX_pes]); (try rfl)
        have eZ : (idZ n) = pes (gtZ n 12 a b) := by
          rw [show gtZ n 12 a b = (idPZ n) from by (try rw [HO.out]); (try rw [HA.out]); (try rw [HB.out]); rfl]
          (try rw [← set_pes]); (try rw [← set_pes]); (try rw [← idZ_pes]); (try rfl)
        exact bodyPost_ret (v := .agg #[.int .i64 (n : Int), .slice (some ⟨g0, 0, none⟩) n p0, .slice (some ⟨g1, 0, none⟩) n p1]) (by simp [results, Tryz.results68, go_sem, hZ]) rfl ((GSt.done G _ _ _).eq eX eZ)
end Go.Proofs.YtnckabohlakbgaaGreat
