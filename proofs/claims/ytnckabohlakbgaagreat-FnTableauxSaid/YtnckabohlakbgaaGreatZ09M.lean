/- The program's tests of numbers. -/
import Derived.Test.YtnckabohlakbgaaGreatZ01M
import Derived.Test.YtnckabohlakbgaaGreatZ05M
import Derived.Test.YtnckabohlakbgaaGreatZ08M
import Derived.BigRegion
import Derived.BigQuiet
namespace Go.Proofs.YtnckabohlakbgaaGreat
set_option linter.unusedSimpArgs false
set_option linter.unusedVariables false
set_option linter.unnecessarySimpa false
set_option maxRecDepth 200000
open Go.ChangeShapes Go.WideShapes Go.ChangeAt Go.RowKit

/-- A number's cells. -/
abbrev Rg4.cs (x : Rg4) : List Value := [.int .i64 x.a, .int .i64 x.b, .int .i64 x.c, .int .i64 x.d]
abbrev Rg4.v (x : Rg4) : Value := .agg #[.int .i64 x.a, .int .i64 x.b, .int .i64 x.c, .int .i64 x.d]
theorem Rg4.len (x : Rg4) : x.cs.length = 4 := rfl
theorem Rg4.ones (x : Rg4) : ∀ u ∈ x.cs, u.oneCell' = true := by
  intro u hu
  simp only [Rg4.cs, List.mem_cons, List.not_mem_nil, or_false] at hu
  rcases hu with rfl | rfl | rfl | rfl <;> rfl
theorem tm2 (x : Int) : x.tmod 2 = 0 ↔ x % 2 = 0 :=
  ⟨fun h => Int.emod_eq_zero_of_dvd (Int.dvd_of_tmod_eq_zero h), fun h => Int.tmod_eq_zero_of_dvd (Int.dvd_of_emod_eq_zero h)⟩
theorem impl_isCoef_ok (n : Int) (w : World) (h : -1000000000 ≤ n ∧ n ≤ 1000000000) :
    Calls Tryz.prog 113 #[.int .i64 n] w fun e w' => e = .returned (.bool true) ∧ w = w' := by
  have H := Lib.hid (show inB n (-1000000000) 1000000000 = true from by simpa [inB] using h)
  clear h
  go_enter Tryz.func113, Tryz.ntmps113
  go_wp2_with fail
  refine (within_is H.out _).mono ?_; rintro e w1 ⟨rfl, rfl⟩
  go_wp2_with fail
  go_ret
  exact ⟨rfl, rfl⟩
set_option maxHeartbeats 1000000 in
theorem impl_IsValidRing_ok (x : Rg4) (w : World) (h : x.le 1000000000) :
    Calls Tryz.prog 106 #[x.v] w fun e w' => e = .returned (.bool true) ∧ Below w.heap.size w w' := by
  obtain ⟨a, b, c, d⟩ := x
  obtain ⟨h1, h2, h3, h4⟩ := h
  dsimp only at h1 h2 h3 h4
  have H1 := Lib.hid h1; have H2 := Lib.hid h2; have H3 := Lib.hid h3; have H4 := Lib.hid h4
  clear h1 h2 h3 h4
  go_enter Tryz.func106, Tryz.ntmps106
  go_wp2_with fail
  refine (impl_isCoef_ok _ _ H1.out).mono ?_; rintro e w1 ⟨rfl, rfl⟩
  go_wp2_with fail
  refine (impl_isCoef_ok _ _ H2.out).mono ?_; rintro e w2 ⟨rfl, rfl⟩
  go_wp2_with fail
  refine (impl_isCoef_ok _ _ H3.out).mono ?_; rintro e w3 ⟨rfl, rfl⟩
  go_wp2_with fail
  refine (impl_isCoef_ok _ _ H4.out).mono ?_; rintro e w4 ⟨rfl, rfl⟩
  go_wp2_with fail
  go_ret
  exact ⟨rfl, belo⟩
set_option maxHeartbeats 1000000 in
theorem impl_isEven_any (x : Rg4) (w : World) (h : x.le 1000000000) :
    Calls Tryz.prog 108 #[x.v] w fun e w' => e = .returned (.bool x.evn) ∧ Below w.heap.size w w' := by
  obtain ⟨a, b, c, d⟩ := x
  obtain ⟨h1, h2, h3, h4⟩ := h
  dsimp only at h1 h2 h3 h4
  have e1 : IntKind.i64.wrap (a + c) = a + c := IntWalk.i64_in _ (by omega)
  have e2 : IntKind.i64.wrap (b + d) = b + d := IntWalk.i64_in _ (by omega)
  have hA : (-2000000000 ≤ a + c) ∧ (a + c ≤ 2000000000) := by omega
  have hB : (-2000000000 ≤ b + d) ∧ (b + d ≤ 2000000000) := by omega
  go_enter Tryz.func108, Tryz.ntmps108
  go_wp2_with fail
  · rename_i h
    go_ret
    exact ⟨ret_bool (by rw [Bool.eq_iff_iff]; simp [Rg4.evn, (tm2 _).1 h, tm2]), belo⟩
  · rename_i h
    go_ret
    exact ⟨ret_bool (by rw [Bool.eq_iff_iff]; simp [Rg4.evn, ← tm2, h]), belo⟩
end Go.Proofs.YtnckabohlakbgaaGreat
namespace Go.Proofs.YtnckabohlakbgaaGreat
set_option linter.unusedSimpArgs false
set_option linter.unusedVariables false
set_option linter.unnecessarySimpa false
set_option maxRecDepth 200000
open Go.ChangeShapes Go.WideShapes Go.ChangeAt Go.RowKit

theorem ring_info : (Tryz.prog.info? 84).map (fun i => (i.zero, i.size, i.bytes)) = some (some (.agg #[.int .i64 0, .int .i64 0, .int .i64 0, .int .i64 0]), 4, 32) := by kernel_rfl
set_option maxHeartbeats 4000000 in
theorem impl_ringIf_ok (B : Nat) (v : Value) (xs : List Rg4) (out : Rg4) (w : World) (hv : OwnE w B 84 v Rg4.cs 4 xs) (hB : B ≤ w.heap.size) (hn : xs.length ≤ 10) (h : ∀ x ∈ xs, x.le 1000000000) (ho : out.le 1000000000) :
    Calls Tryz.prog 107 #[out.v, v] w fun e w' => e = .returned (.tuple #[out.v, .bool true]) ∧ Below B w w' := by
  obtain ⟨i0, hi, hz0, hz1, hz2⟩ := info_parts ring_info
  obtain ⟨a, c, rfl⟩ := own_form hv
  have HA := Lib.hid (show ∀ x ∈ xs ++ [out], x.le 1000000000 from fun x hx => by
    rcases List.mem_append.1 hx with hx | hx
    · exact h x hx
    · simp only [List.mem_singleton] at hx; subst hx; exact ho)
  clear h ho
  have S0 := Lib.hid ((((Sb.nilB w hB).push out.cs 84 rfl).push [.int .i64 0, .int .i64 0, .int .i64 0, .int .i64 0] 84 (g := w.heap.size + 1) (by simp)).alloc (.cells out.cs.toArray 84))
  have O0 := Lib.hid ((hv.alloc (.cells out.cs.toArray 84)).alloc (.cells #[.int .i64 0, .int .i64 0, .int .i64 0, .int .i64 0] 84) |>.alloc (.cells out.cs.toArray 84))
  have R0 := Lib.hid (reads_news ((w.alloc (.cells out.cs.toArray 84)).alloc (.cells #[.int .i64 0, .int .i64 0, .int .i64 0, .int .i64 0] 84)) out.cs 84 4 1 rfl)
  have hlt0 := hv.lt
  have HL := Lib.hid hlt0
  clear hv hlt0
  obtain ⟨oa, ob, oc, od⟩ := out
  go_enter Tryz.func107, Tryz.ntmps107
  go_wp2_with (at_builtin; go_loud (refine wpList_append_any _ rfl _ _ 137 rfl B 84 i0 (.agg #[.int .i64 0, .int .i64 0, .int .i64 0, .int .i64 0]) 4 32 Tryz.underlying137 hi hz0 hz1 hz2 rfl (by decide) (.slice a xs.length c) xs.length (xs.flatMap Rg4.cs) ?hs ?ho (w.heap.size + 3) (some ⟨w.heap.size + 2, 0, none⟩) 1 1 (Rg4.cs ⟨oa, ob, oc, od⟩) ?hx ?hr (Rg4.ones _) ?h63 ?hb ?hbs ?_; (case hs => rfl); (case hx => rfl); (case h63 => (unfold maxLen; omega)); (case hb => omega); (case hbs => (simp; omega)); (case ho => with_reducible exact O0.out); (case hr => simpa using R0.out); intro v1 w1 hown1 hg1 hat1; obtain ⟨a1, c1, rfl⟩ := own_form hown1))
  have S1 := Lib.hid (S0.out.kept hg1 (fun b hb => ⟨(HL.out b hb).1, fun p hp e => by
    have := (HL.out b hb).2
    simp only [List.mem_cons, List.not_mem_nil, or_false] at hp
    rcases hp with rfl | rfl <;> (dsimp only at e; omega)⟩))
  have O1 := Lib.hid (show OwnE w1 B 84 (.slice a1 (xs.length + 1) c1) Rg4.cs 4 (xs ++ [⟨oa, ob, oc, od⟩]) from by unfold OwnE; rw [List.length_append, List.flatMap_append]; simpa using hown1)
  clear hown1 hg1 hat1 S0 O0 R0 HL hi hz0 hz1 hz2
  clear i0
  obtain ⟨ys, hys⟩ : ∃ ys, ys = xs ++ [(⟨oa, ob, oc, od⟩ : Rg4)] := ⟨_, rfl⟩
  have hyl : xs.length + 1 = ys.length := by rw [hys]; simp
  rw [← hys] at HA O1
  have HY := Lib.hid hyl
  clear hys hyl
  go_loopw [13] (fun i wr => ∃ k : Nat, k ≤ xs.length + 1 ∧ i = .int .i64 k ∧ Hid (Sb B w wr [(w.heap.size + 1, [.int .i64 0, .int .i64 0, .int .i64 0, .int .i64 0]), (w.heap.size, Rg4.cs ⟨oa, ob, oc, od⟩)]) ∧ Hid (OwnE wr B 84 (.slice a1 (xs.length + 1) c1) Rg4.cs 4 ys)) (fun i _ => xs.length + 1 - (intOf i).toNat)
  case atStart => exact ⟨0, Nat.zero_le _, rfl, S1, O1⟩
  case round =>
    clear S1 O1
    obtain ⟨k, hk, rfl, hS, hO⟩ := hrel
    by_cases hlt : k < xs.length + 1
    · have i1 : (k : Int) < (xs.length : Int) + 1 := by omega
      obtain ⟨g, rfl, hBg, hgl, hc⟩ := own_at Rg4.len hO.out k (by rw [← HY.out]; exact hlt)
      have hly : k < ys.length := by rw [← HY.out]; exact hlt
      have hle := HA.out ys[k] (List.getElem_mem hly)
      have k0 := hc 0 _ (by decide) rfl
      rw [Nat.add_zero] at k0
      have k1 := hc 1 _ (by decide) rfl
      have k2 := hc 2 _ (by decide) rfl
      have k3 := hc 3 _ (by decide) rfl
      clear hc
      generalize ys[k] = y at *
      clear hly
      obtain ⟨ya, yb, yc, yd⟩ := y
      have HLE := Lib.hid hle
      clear hle
      dsimp only at k0 k1 k2 k3
      have S2 := Lib.hid (hS.out.alloc (.cells #[.int .i64 ya, .int .i64 yb, .int .i64 yc, .int .i64 yd] 84))
      have O2 := Lib.hid (OwnE.below hO.out (show Below wr.heap.size wr (wr.alloc (.cells #[.int .i64 ya, .int .i64 yb, .int .i64 yc, .int .i64 yd] 84)) from belo) rfl)
      go_wp2_with fail
      generalize (wr.alloc (.cells #[.int .i64 ya, .int .i64 yb, .int .i64 yc, .int .i64 yd] 84)) = w2 at *
      refine (impl_IsValidRing_ok _ _ HLE.out).mono ?_; rintro e w3 ⟨rfl, hb3⟩
      have S3 := Lib.hid (S2.out.call hb3)
      have O3 := Lib.hid (OwnE.below O2.out hb3 rfl)
      clear hb3 S2 O2
      go_wp2_with fail
      go_roundw
      case rel => exact ⟨k + 1, by omega, by go_num, S3, O3⟩
      case measure => simp [intOf]; omega
    · have i1 : ¬ (k : Int) < (xs.length : Int) + 1 := by omega
      have B1 := hS.out.at 1 rfl
      obtain ⟨⟨b0, b1, b2, b3⟩, g0, g1, g2, g3⟩ := B1.c4
      obtain ⟨⟨c0, c1, c2, c3⟩, f0, f1, f2, f3⟩ := hS.out.head.c4
      have S9 := Lib.hid ((((hS.out.set0 0 (.int .i64 oa)).set0 1 (.int .i64 ob)).set0 2 (.int .i64 oc)).set0 3 (.int .i64 od))
      clear hS hO B1
      go_wp2_with fail
      clear b0 b1 b2 b3 g0 g1 g2 g3 c0 c1 c2 c3 f0 f1 f2 f3
      generalize (((wr.setCell ⟨w.heap.size + 1, 0, none⟩ (.int .i64 oa)).setCell ⟨w.heap.size + 1, 1, none⟩ (.int .i64 ob)).setCell ⟨w.heap.size + 1, 2, none⟩ (.int .i64 oc)).setCell ⟨w.heap.size + 1, 3, none⟩ (.int .i64 od) = w9 at *
      obtain ⟨⟨c0, c1, c2, c3⟩, _⟩ := S9.out.head.c4
      refine bodyPost_ret (v := .tuple #[.agg #[.int .i64 oa, .int .i64 ob, .int .i64 oc, .int .i64 od], .bool true]) (by simp [results, Tryz.results107, go_sem, c0, c1, c2, c3]) rfl ⟨rfl, S9.out.bel⟩
end Go.Proofs.YtnckabohlakbgaaGreat
namespace Go.Proofs.YtnckabohlakbgaaGreat
set_option linter.unusedSimpArgs false
set_option linter.unusedVariables false
set_option linter.unnecessarySimpa false
set_option maxRecDepth 200000
open Go.ChangeShapes Go.WideShapes Go.ChangeAt Go.RowKit

/-- A slice that has just been laid. -/
theorem own_new {base g sz n : Nat} {us : List Value} (w : World) (t : TypeId) (hg : w.heap.size = g) (hb : base ≤ g) (hl : us.length = n * sz) (hn : n ≤ 1000) :
    (w.alloc (.cells us.toArray t)).ownsRow base t sz (.slice (some ⟨g, 0, none⟩) n n) n us := by
  subst hg
  refine ⟨hl, .inr ⟨w.heap.size, n, us.toArray, rfl, hb, ?_, Nat.le_refl _, by unfold maxLen; omega, by simp [hl], by rw [← hl]; simp⟩⟩
  show (w.heap.push _)[w.heap.size]? = _
  simp
theorem all2 {x y : Rg4} {M : Int} (hx : x.le M) (hy : y.le M) : ∀ z ∈ [x, y], z.le M := by
  intro z hz
  simp only [List.mem_cons, List.not_mem_nil, or_false] at hz
  rcases hz with rfl | rfl
  · exact hx
  · exact hy
theorem all1 {x : Rg4} {M : Int} (hx : x.le M) : ∀ z ∈ [x], z.le M := by
  intro z hz
  simp only [List.mem_cons, List.not_mem_nil, or_false] at hz
  subst hz
  exact hx
set_option maxHeartbeats 4000000 in
theorem impl_AddRing_ok (x y : Rg4) (w : World) (hx : x.le 1000000000) (hy : y.le 1000000000) (hr : (x.add y).le 1000000000) :
    Calls Tryz.prog 94 #[x.v, y.v] w fun e w' => e = .returned (.tuple #[(x.add y).v, .bool true]) ∧ Below w.heap.size w w' := by
  have HX := Lib.hid (all2 hx hy)
  have HR := Lib.hid hr
  clear hr
  obtain ⟨hx1, hx2, hx3, hx4⟩ := hx
  obtain ⟨hy1, hy2, hy3, hy4⟩ := hy
  obtain ⟨xa, xb, xc, xd⟩ := x
  obtain ⟨ya, yb, yc, yd⟩ := y
  dsimp only at hx1 hx2 hx3 hx4 hy1 hy2 hy3 hy4
  have HM := Lib.hid (show (⟨xa, xb, xc, xd⟩ : Rg4).add ⟨ya, yb, yc, yd⟩ = (⟨xa + ya, xb + yb, xc + yc, xd + yd⟩ : Rg4) from rfl)
  replace HR := Lib.hid (show Rg4.le ⟨xa + ya, xb + yb, xc + yc, xd + yd⟩ 1000000000 from HR.out)
  have e0 : IntKind.i64.wrap (xa + ya) = xa + ya := IntWalk.i64_in _ (by omega)
  have e1 : IntKind.i64.wrap (xb + yb) = xb + yb := IntWalk.i64_in _ (by omega)
  have e2 : IntKind.i64.wrap (xc + yc) = xc + yc := IntWalk.i64_in _ (by omega)
  have e3 : IntKind.i64.wrap (xd + yd) = xd + yd := IntWalk.i64_in _ (by omega)
  have S1 := Lib.hid (((((Sb.nil w).push [.int .i64 xa, .int .i64 xb, .int .i64 xc, .int .i64 xd] 84 rfl).push [.int .i64 ya, .int .i64 yb, .int .i64 yc, .int .i64 yd] 84 (g := w.heap.size + 1) (by simp)).push [.int .i64 0, .int .i64 0, .int .i64 0, .int .i64 0] 84 (g := w.heap.size + 1 + 1) (by simp)))
  have C1 := Lib.hid (fun W (S : Sb w.heap.size w W [(w.heap.size + 1 + 1, [.int .i64 0, .int .i64 0, .int .i64 0, .int .i64 0]), (w.heap.size + 1, [.int .i64 ya, .int .i64 yb, .int .i64 yc, .int .i64 yd]), (w.heap.size, [.int .i64 xa, .int .i64 xb, .int .i64 xc, .int .i64 xd])]) => S.alloc (.cells #[.int .i64 xa, .int .i64 xb, .int .i64 xc, .int .i64 xd, .int .i64 ya, .int .i64 yb, .int .i64 yc, .int .i64 yd] 84))
  have O1 := Lib.hid (fun (W : World) (g : Nat) (hg : W.heap.size = g) => (show OwnE (W.alloc (.cells #[.int .i64 xa, .int .i64 xb, .int .i64 xc, .int .i64 xd, .int .i64 ya, .int .i64 yb, .int .i64 yc, .int .i64 yd] 84)) g 84 (.slice (some ⟨g, 0, none⟩) 2 2) Rg4.cs 4 [⟨xa, xb, xc, xd⟩, ⟨ya, yb, yc, yd⟩] from own_new W 84 hg (Nat.le_refl _) rfl (by omega)))
  go_enter Tryz.func94, Tryz.ntmps94
  go_wp2_with fail
  have S2 := Lib.hid (C1.out _ S1.out)
  have O2 := Lib.hid (O1.out (((w.alloc (.cells #[.int .i64 xa, .int .i64 xb, .int .i64 xc, .int .i64 xd] 84)).alloc (.cells #[.int .i64 ya, .int .i64 yb, .int .i64 yc, .int .i64 yd] 84)).alloc (.cells #[.int .i64 0, .int .i64 0, .int .i64 0, .int .i64 0] 84)) (w.heap.size + 1 + 1 + 1) (by simp))
  have z2 : w.heap.size + 1 + 1 + 1 ≤ ((((w.alloc (.cells #[.int .i64 xa, .int .i64 xb, .int .i64 xc, .int .i64 xd] 84)).alloc (.cells #[.int .i64 ya, .int .i64 yb, .int .i64 yc, .int .i64 yd] 84)).alloc (.cells #[.int .i64 0, .int .i64 0, .int .i64 0, .int .i64 0] 84)).alloc (.cells #[.int .i64 xa, .int .i64 xb, .int .i64 xc, .int .i64 xd, .int .i64 ya, .int .i64 yb, .int .i64 yc, .int .i64 yd] 84)).heap.size := by simp
  clear C1 O1 S1
  generalize ((((w.alloc (.cells #[.int .i64 xa, .int .i64 xb, .int .i64 xc, .int .i64 xd] 84)).alloc (.cells #[.int .i64 ya, .int .i64 yb, .int .i64 yc, .int .i64 yd] 84)).alloc (.cells #[.int .i64 0, .int .i64 0, .int .i64 0, .int .i64 0] 84)).alloc (.cells #[.int .i64 xa, .int .i64 xb, .int .i64 xc, .int .i64 xd, .int .i64 ya, .int .i64 yb, .int .i64 yc, .int .i64 yd] 84)) = w1 at *
  refine (impl_ringIf_ok (w.heap.size + 1 + 1 + 1) _ [⟨xa, xb, xc, xd⟩, ⟨ya, yb, yc, yd⟩] ⟨xa + ya, xb + yb, xc + yc, xd + yd⟩ w1 O2.out z2 (by simp) HX.out HR.out).mono ?_; rintro e w2 ⟨rfl, hb2⟩
  replace S2 := Lib.hid (S2.out.callB hb2 (by omega) (fun p hp => by
    simp only [List.mem_cons, List.not_mem_nil, or_false] at hp
    rcases hp with rfl | rfl | rfl <;> (dsimp only; omega)))
  have S9 := Lib.hid ((((S2.out.set0 0 (.int .i64 (xa + ya))).set0 1 (.int .i64 (xb + yb))).set0 2 (.int .i64 (xc + yc))).set0 3 (.int .i64 (xd + yd)))
  obtain ⟨⟨c0, c1, c2, c3⟩, f0, f1, f2, f3⟩ := S2.out.head.c4
  clear hb2 S2 O2
  go_wp2_with fail
  clear c0 c1 c2 c3 f0 f1 f2 f3
  generalize (((w2.setCell ⟨w.heap.size + 1 + 1, 0, none⟩ (.int .i64 (xa + ya))).setCell ⟨w.heap.size + 1 + 1, 1, none⟩ (.int .i64 (xb + yb))).setCell ⟨w.heap.size + 1 + 1, 2, none⟩ (.int .i64 (xc + yc))).setCell ⟨w.heap.size + 1 + 1, 3, none⟩ (.int .i64 (xd + yd)) = w9 at *
  obtain ⟨⟨c0, c1, c2, c3⟩, _⟩ := S9.out.head.c4
  refine bodyPost_ret (v := .tuple #[.agg #[.int .i64 (xa + ya), .int .i64 (xb + yb), .int .i64 (xc + yc), .int .i64 (xd + yd)], .bool true]) (by simp [results, Tryz.results94, go_sem, c0, c1, c2, c3]) rfl ⟨?_, S9.out.bel⟩
  rw [HM.out]
set_option maxHeartbeats 4000000 in
theorem impl_MulRootTwo_ok (x : Rg4) (w : World) (hx : x.le 1000000000) (hr : x.rt.le 1000000000) :
    Calls Tryz.prog 114 #[x.v] w fun e w' => e = .returned (.tuple #[(x.rt).v, .bool true]) ∧ Below w.heap.size w w' := by
  have HX := Lib.hid (all1 hx)
  have HR := Lib.hid hr
  clear hr
  obtain ⟨hx1, hx2, hx3, hx4⟩ := hx
  obtain ⟨xa, xb, xc, xd⟩ := x
  dsimp only at hx1 hx2 hx3 hx4
  have HM := Lib.hid (show (⟨xa, xb, xc, xd⟩ : Rg4).rt = (⟨xb - xd, xa + xc, xb + xd, xc - xa⟩ : Rg4) from rfl)
  replace HR := Lib.hid (show Rg4.le ⟨xb - xd, xa + xc, xb + xd, xc - xa⟩ 1000000000 from HR.out)
  have e0 : IntKind.i64.wrap (xb - xd) = xb - xd := IntWalk.i64_in _ (by omega)
  have e1 : IntKind.i64.wrap (xa + xc) = xa + xc := IntWalk.i64_in _ (by omega)
  have e2 : IntKind.i64.wrap (xb + xd) = xb + xd := IntWalk.i64_in _ (by omega)
  have e3 : IntKind.i64.wrap (xc - xa) = xc - xa := IntWalk.i64_in _ (by omega)
  have S1 := Lib.hid ((((Sb.nil w).push [.int .i64 xa, .int .i64 xb, .int .i64 xc, .int .i64 xd] 84 rfl).push [.int .i64 0, .int .i64 0, .int .i64 0, .int .i64 0] 84 (g := w.heap.size + 1) (by simp)))
  have C1 := Lib.hid (fun W (S : Sb w.heap.size w W [(w.heap.size + 1, [.int .i64 0, .int .i64 0, .int .i64 0, .int .i64 0]), (w.heap.size, [.int .i64 xa, .int .i64 xb, .int .i64 xc, .int .i64 xd])]) => S.alloc (.cells #[.int .i64 xa, .int .i64 xb, .int .i64 xc, .int .i64 xd] 84))
  have O1 := Lib.hid (fun (W : World) (g : Nat) (hg : W.heap.size = g) => (show OwnE (W.alloc (.cells #[.int .i64 xa, .int .i64 xb, .int .i64 xc, .int .i64 xd] 84)) g 84 (.slice (some ⟨g, 0, none⟩) 1 1) Rg4.cs 4 [⟨xa, xb, xc, xd⟩] from own_new W 84 hg (Nat.le_refl _) rfl (by omega)))
  go_enter Tryz.func114, Tryz.ntmps114
  go_wp2_with fail
  have S2 := Lib.hid (C1.out _ S1.out)
  have O2 := Lib.hid (O1.out ((w.alloc (.cells #[.int .i64 xa, .int .i64 xb, .int .i64 xc, .int .i64 xd] 84)).alloc (.cells #[.int .i64 0, .int .i64 0, .int .i64 0, .int .i64 0] 84)) (w.heap.size + 1 + 1) (by simp))
  have z2 : w.heap.size + 1 + 1 ≤ (((w.alloc (.cells #[.int .i64 xa, .int .i64 xb, .int .i64 xc, .int .i64 xd] 84)).alloc (.cells #[.int .i64 0, .int .i64 0, .int .i64 0, .int .i64 0] 84)).alloc (.cells #[.int .i64 xa, .int .i64 xb, .int .i64 xc, .int .i64 xd] 84)).heap.size := by simp
  clear C1 O1 S1
  generalize (((w.alloc (.cells #[.int .i64 xa, .int .i64 xb, .int .i64 xc, .int .i64 xd] 84)).alloc (.cells #[.int .i64 0, .int .i64 0, .int .i64 0, .int .i64 0] 84)).alloc (.cells #[.int .i64 xa, .int .i64 xb, .int .i64 xc, .int .i64 xd] 84)) = w1 at *
  refine (impl_ringIf_ok (w.heap.size + 1 + 1) _ [⟨xa, xb, xc, xd⟩] ⟨xb - xd, xa + xc, xb + xd, xc - xa⟩ w1 O2.out z2 (by simp) HX.out HR.out).mono ?_; rintro e w2 ⟨rfl, hb2⟩
  replace S2 := Lib.hid (S2.out.callB hb2 (by omega) (fun p hp => by
    simp only [List.mem_cons, List.not_mem_nil, or_false] at hp
    rcases hp with rfl | rfl <;> (dsimp only; omega)))
  have S9 := Lib.hid ((((S2.out.set0 0 (.int .i64 (xb - xd))).set0 1 (.int .i64 (xa + xc))).set0 2 (.int .i64 (xb + xd))).set0 3 (.int .i64 (xc - xa)))
  obtain ⟨⟨c0, c1, c2, c3⟩, f0, f1, f2, f3⟩ := S2.out.head.c4
  clear hb2 S2 O2
  go_wp2_with fail
  clear c0 c1 c2 c3 f0 f1 f2 f3
  generalize (((w2.setCell ⟨w.heap.size + 1, 0, none⟩ (.int .i64 (xb - xd))).setCell ⟨w.heap.size + 1, 1, none⟩ (.int .i64 (xa + xc))).setCell ⟨w.heap.size + 1, 2, none⟩ (.int .i64 (xb + xd))).setCell ⟨w.heap.size + 1, 3, none⟩ (.int .i64 (xc - xa)) = w9 at *
  obtain ⟨⟨c0, c1, c2, c3⟩, _⟩ := S9.out.head.c4
  refine bodyPost_ret (v := .tuple #[.agg #[.int .i64 (xb - xd), .int .i64 (xa + xc), .int .i64 (xb + xd), .int .i64 (xc - xa)], .bool true]) (by simp [results, Tryz.results114, go_sem, c0, c1, c2, c3]) rfl ⟨?_, S9.out.bel⟩
  rw [HM.out]
set_option maxHeartbeats 4000000 in
theorem impl_MulRing_ok (x y : Rg4) (w : World) (A B : Int) (hx : x.le A) (hy : y.le B) (hA : A ≤ 1000000000) (hB : B ≤ 1000000000) (hK : 4 * (A * B) ≤ 1000000000) :
    Calls Tryz.prog 86 #[x.v, y.v] w fun e w' => e = .returned (.tuple #[(x.mul y).v, .bool true]) ∧ Below w.heap.size w w' := by
  have HX := Lib.hid (all2 (hx.mono hA) (hy.mono hB))
  have hml := Rg4.mul_le hx hy
  have HR := Lib.hid (hml.mono hK)
  clear hml
  obtain ⟨hx1, hx2, hx3, hx4⟩ := hx
  obtain ⟨hy1, hy2, hy3, hy4⟩ := hy
  have baa := Rg4.prod_in hx1 hy1
  have bab := Rg4.prod_in hx1 hy2
  have bac := Rg4.prod_in hx1 hy3
  have bad := Rg4.prod_in hx1 hy4
  have bba := Rg4.prod_in hx2 hy1
  have bbb := Rg4.prod_in hx2 hy2
  have bbc := Rg4.prod_in hx2 hy3
  have bbd := Rg4.prod_in hx2 hy4
  have bca := Rg4.prod_in hx3 hy1
  have bcb := Rg4.prod_in hx3 hy2
  have bcc := Rg4.prod_in hx3 hy3
  have bcd := Rg4.prod_in hx3 hy4
  have bda := Rg4.prod_in hx4 hy1
  have bdb := Rg4.prod_in hx4 hy2
  have bdc := Rg4.prod_in hx4 hy3
  have bdd := Rg4.prod_in hx4 hy4
  obtain ⟨xa, xb, xc, xd⟩ := x
  obtain ⟨ya, yb, yc, yd⟩ := y
  dsimp only at baa bab bac bad bba bbb bbc bbd bca bcb bcc bcd bda bdb bdc bdd
  have HM := Lib.hid (show (⟨xa, xb, xc, xd⟩ : Rg4).mul ⟨ya, yb, yc, yd⟩ = (⟨xa * ya - xb * yd - xc * yc - xd * yb, xa * yb + xb * ya - xc * yd - xd * yc, xa * yc + xb * yb + xc * ya - xd * yd, xa * yd + xb * yc + xc * yb + xd * ya⟩ : Rg4) from rfl)
  replace HR := Lib.hid (show Rg4.le ⟨xa * ya - xb * yd - xc * yc - xd * yb, xa * yb + xb * ya - xc * yd - xd * yc, xa * yc + xb * yb + xc * ya - xd * yd, xa * yd + xb * yc + xc * yb + xd * ya⟩ 1000000000 from HR.out)
  clear hx1 hx2 hx3 hx4 hy1 hy2 hy3 hy4
  generalize A * B = K at *
  obtain ⟨paa, haa⟩ : ∃ p, p = xa * ya := ⟨_, rfl⟩
  rw [← haa] at baa HM HR
  have eaa : IntKind.i64.wrap (xa * ya) = paa := by rw [← haa]; exact IntWalk.i64_in _ (by omega)
  clear haa
  obtain ⟨pab, hab⟩ : ∃ p, p = xa * yb := ⟨_, rfl⟩
  rw [← hab] at bab HM HR
  have eab : IntKind.i64.wrap (xa * yb) = pab := by rw [← hab]; exact IntWalk.i64_in _ (by omega)
  clear hab
  obtain ⟨pac, hac⟩ : ∃ p, p = xa * yc := ⟨_, rfl⟩
  rw [← hac] at bac HM HR
  have eac : IntKind.i64.wrap (xa * yc) = pac := by rw [← hac]; exact IntWalk.i64_in _ (by omega)
  clear hac
  obtain ⟨pad, had⟩ : ∃ p, p = xa * yd := ⟨_, rfl⟩
  rw [← had] at bad HM HR
  have ead : IntKind.i64.wrap (xa * yd) = pad := by rw [← had]; exact IntWalk.i64_in _ (by omega)
  clear had
  obtain ⟨pba, hba⟩ : ∃ p, p = xb * ya := ⟨_, rfl⟩
  rw [← hba] at bba HM HR
  have eba : IntKind.i64.wrap (xb * ya) = pba := by rw [← hba]; exact IntWalk.i64_in _ (by omega)
  clear hba
  obtain ⟨pbb, hbb⟩ : ∃ p, p = xb * yb := ⟨_, rfl⟩
  rw [← hbb] at bbb HM HR
  have ebb : IntKind.i64.wrap (xb * yb) = pbb := by rw [← hbb]; exact IntWalk.i64_in _ (by omega)
  clear hbb
  obtain ⟨pbc, hbc⟩ : ∃ p, p = xb * yc := ⟨_, rfl⟩
  rw [← hbc] at bbc HM HR
  have ebc : IntKind.i64.wrap (xb * yc) = pbc := by rw [← hbc]; exact IntWalk.i64_in _ (by omega)
  clear hbc
  obtain ⟨pbd, hbd⟩ : ∃ p, p = xb * yd := ⟨_, rfl⟩
  rw [← hbd] at bbd HM HR
  have ebd : IntKind.i64.wrap (xb * yd) = pbd := by rw [← hbd]; exact IntWalk.i64_in _ (by omega)
  clear hbd
  obtain ⟨pca, hca⟩ : ∃ p, p = xc * ya := ⟨_, rfl⟩
  rw [← hca] at bca HM HR
  have eca : IntKind.i64.wrap (xc * ya) = pca := by rw [← hca]; exact IntWalk.i64_in _ (by omega)
  clear hca
  obtain ⟨pcb, hcb⟩ : ∃ p, p = xc * yb := ⟨_, rfl⟩
  rw [← hcb] at bcb HM HR
  have ecb : IntKind.i64.wrap (xc * yb) = pcb := by rw [← hcb]; exact IntWalk.i64_in _ (by omega)
  clear hcb
  obtain ⟨pcc, hcc⟩ : ∃ p, p = xc * yc := ⟨_, rfl⟩
  rw [← hcc] at bcc HM HR
  have ecc : IntKind.i64.wrap (xc * yc) = pcc := by rw [← hcc]; exact IntWalk.i64_in _ (by omega)
  clear hcc
  obtain ⟨pcd, hcd⟩ : ∃ p, p = xc * yd := ⟨_, rfl⟩
  rw [← hcd] at bcd HM HR
  have ecd : IntKind.i64.wrap (xc * yd) = pcd := by rw [← hcd]; exact IntWalk.i64_in _ (by omega)
  clear hcd
  obtain ⟨pda, hda⟩ : ∃ p, p = xd * ya := ⟨_, rfl⟩
  rw [← hda] at bda HM HR
  have eda : IntKind.i64.wrap (xd * ya) = pda := by rw [← hda]; exact IntWalk.i64_in _ (by omega)
  clear hda
  obtain ⟨pdb, hdb⟩ : ∃ p, p = xd * yb := ⟨_, rfl⟩
  rw [← hdb] at bdb HM HR
  have edb : IntKind.i64.wrap (xd * yb) = pdb := by rw [← hdb]; exact IntWalk.i64_in _ (by omega)
  clear hdb
  obtain ⟨pdc, hdc⟩ : ∃ p, p = xd * yc := ⟨_, rfl⟩
  rw [← hdc] at bdc HM HR
  have edc : IntKind.i64.wrap (xd * yc) = pdc := by rw [← hdc]; exact IntWalk.i64_in _ (by omega)
  clear hdc
  obtain ⟨pdd, hdd⟩ : ∃ p, p = xd * yd := ⟨_, rfl⟩
  rw [← hdd] at bdd HM HR
  have edd : IntKind.i64.wrap (xd * yd) = pdd := by rw [← hdd]; exact IntWalk.i64_in _ (by omega)
  clear hdd
  have S1 := Lib.hid (((((Sb.nil w).push [.int .i64 xa, .int .i64 xb, .int .i64 xc, .int .i64 xd] 84 rfl).push [.int .i64 ya, .int .i64 yb, .int .i64 yc, .int .i64 yd] 84 (g := w.heap.size + 1) (by simp)).push [.int .i64 0, .int .i64 0, .int .i64 0, .int .i64 0] 84 (g := w.heap.size + 1 + 1) (by simp)))
  have C1 := Lib.hid (fun W (S : Sb w.heap.size w W [(w.heap.size + 1 + 1, [.int .i64 0, .int .i64 0, .int .i64 0, .int .i64 0]), (w.heap.size + 1, [.int .i64 ya, .int .i64 yb, .int .i64 yc, .int .i64 yd]), (w.heap.size, [.int .i64 xa, .int .i64 xb, .int .i64 xc, .int .i64 xd])]) => S.alloc (.cells #[.int .i64 xa, .int .i64 xb, .int .i64 xc, .int .i64 xd, .int .i64 ya, .int .i64 yb, .int .i64 yc, .int .i64 yd] 84))
  have O1 := Lib.hid (fun (W : World) (g : Nat) (hg : W.heap.size = g) => (show OwnE (W.alloc (.cells #[.int .i64 xa, .int .i64 xb, .int .i64 xc, .int .i64 xd, .int .i64 ya, .int .i64 yb, .int .i64 yc, .int .i64 yd] 84)) g 84 (.slice (some ⟨g, 0, none⟩) 2 2) Rg4.cs 4 [⟨xa, xb, xc, xd⟩, ⟨ya, yb, yc, yd⟩] from own_new W 84 hg (Nat.le_refl _) rfl (by omega)))
  go_enter Tryz.func86, Tryz.ntmps86
  go_wp2_with fail
  have S2 := Lib.hid (C1.out _ S1.out)
  have O2 := Lib.hid (O1.out (((w.alloc (.cells #[.int .i64 xa, .int .i64 xb, .int .i64 xc, .int .i64 xd] 84)).alloc (.cells #[.int .i64 ya, .int .i64 yb, .int .i64 yc, .int .i64 yd] 84)).alloc (.cells #[.int .i64 0, .int .i64 0, .int .i64 0, .int .i64 0] 84)) (w.heap.size + 1 + 1 + 1) (by simp))
  have z2 : w.heap.size + 1 + 1 + 1 ≤ ((((w.alloc (.cells #[.int .i64 xa, .int .i64 xb, .int .i64 xc, .int .i64 xd] 84)).alloc (.cells #[.int .i64 ya, .int .i64 yb, .int .i64 yc, .int .i64 yd] 84)).alloc (.cells #[.int .i64 0, .int .i64 0, .int .i64 0, .int .i64 0] 84)).alloc (.cells #[.int .i64 xa, .int .i64 xb, .int .i64 xc, .int .i64 xd, .int .i64 ya, .int .i64 yb, .int .i64 yc, .int .i64 yd] 84)).heap.size := by simp
  clear C1 O1 S1
  generalize ((((w.alloc (.cells #[.int .i64 xa, .int .i64 xb, .int .i64 xc, .int .i64 xd] 84)).alloc (.cells #[.int .i64 ya, .int .i64 yb, .int .i64 yc, .int .i64 yd] 84)).alloc (.cells #[.int .i64 0, .int .i64 0, .int .i64 0, .int .i64 0] 84)).alloc (.cells #[.int .i64 xa, .int .i64 xb, .int .i64 xc, .int .i64 xd, .int .i64 ya, .int .i64 yb, .int .i64 yc, .int .i64 yd] 84)) = w1 at *
  refine (impl_ringIf_ok (w.heap.size + 1 + 1 + 1) _ [⟨xa, xb, xc, xd⟩, ⟨ya, yb, yc, yd⟩] ⟨paa - pbd - pcc - pdb, pab + pba - pcd - pdc, pac + pbb + pca - pdd, pad + pbc + pcb + pda⟩ w1 O2.out z2 (by simp) HX.out HR.out).mono ?_; rintro e w2 ⟨rfl, hb2⟩
  replace S2 := Lib.hid (S2.out.callB hb2 (by omega) (fun p hp => by
    simp only [List.mem_cons, List.not_mem_nil, or_false] at hp
    rcases hp with rfl | rfl | rfl <;> (dsimp only; omega)))
  have S9 := Lib.hid ((((S2.out.set0 0 (.int .i64 (paa - pbd - pcc - pdb))).set0 1 (.int .i64 (pab + pba - pcd - pdc))).set0 2 (.int .i64 (pac + pbb + pca - pdd))).set0 3 (.int .i64 (pad + pbc + pcb + pda)))
  obtain ⟨⟨c0, c1, c2, c3⟩, f0, f1, f2, f3⟩ := S2.out.head.c4
  clear hb2 S2 O2
  go_wp2_with fail
  clear c0 c1 c2 c3 f0 f1 f2 f3
  generalize (((w2.setCell ⟨w.heap.size + 1 + 1, 0, none⟩ (.int .i64 (paa - pbd - pcc - pdb))).setCell ⟨w.heap.size + 1 + 1, 1, none⟩ (.int .i64 (pab + pba - pcd - pdc))).setCell ⟨w.heap.size + 1 + 1, 2, none⟩ (.int .i64 (pac + pbb + pca - pdd))).setCell ⟨w.heap.size + 1 + 1, 3, none⟩ (.int .i64 (pad + pbc + pcb + pda)) = w9 at *
  obtain ⟨⟨c0, c1, c2, c3⟩, _⟩ := S9.out.head.c4
  refine bodyPost_ret (v := .tuple #[.agg #[.int .i64 (paa - pbd - pcc - pdb), .int .i64 (pab + pba - pcd - pdc), .int .i64 (pac + pbb + pca - pdd), .int .i64 (pad + pbc + pcb + pda)], .bool true]) (by simp [results, Tryz.results86, go_sem, c0, c1, c2, c3]) rfl ⟨?_, S9.out.bel⟩
  rw [HM.out]
set_option maxHeartbeats 4000000 in
theorem impl_DivRootTwo_ok (x : Rg4) (w : World) (hx : x.le 1000000000) (he : x.evn = true) :
    Calls Tryz.prog 109 #[x.v] w fun e w' => e = .returned (.tuple #[(x.hf).v, .bool true]) ∧ Below w.heap.size w w' := by
  have HX := Lib.hid (all1 hx)
  have HV := Lib.hid hx
  have HE := Lib.hid he
  have HR := Lib.hid (Rg4.hf_le hx)
  have hev := he
  simp only [Rg4.evn, Bool.and_eq_true, decide_eq_true_eq] at hev
  obtain ⟨hx1, hx2, hx3, hx4⟩ := hx
  clear he
  obtain ⟨xa, xb, xc, xd⟩ := x
  dsimp only at hx1 hx2 hx3 hx4 hev
  have HM := Lib.hid (show (⟨xa, xb, xc, xd⟩ : Rg4).hf = (⟨(xb - xd) / 2, (xa + xc) / 2, (xb + xd) / 2, (xc - xa) / 2⟩ : Rg4) from rfl)
  replace HR := Lib.hid (show Rg4.le ⟨(xb - xd) / 2, (xa + xc) / 2, (xb + xd) / 2, (xc - xa) / 2⟩ 1000000000 from HR.out)
  have e0 : IntKind.i64.wrap (xb - xd) = xb - xd := IntWalk.i64_in _ (by omega)
  have q0 : Int.tdiv (xb - xd) 2 = (xb - xd) / 2 := by rw [Int.tdiv_eq_ediv_of_dvd (by omega)]
  have r0 : IntKind.i64.wrap ((xb - xd) / 2) = (xb - xd) / 2 := IntWalk.i64_in _ (by omega)
  have e1 : IntKind.i64.wrap (xa + xc) = xa + xc := IntWalk.i64_in _ (by omega)
  have q1 : Int.tdiv (xa + xc) 2 = (xa + xc) / 2 := by rw [Int.tdiv_eq_ediv_of_dvd (by omega)]
  have r1 : IntKind.i64.wrap ((xa + xc) / 2) = (xa + xc) / 2 := IntWalk.i64_in _ (by omega)
  have e2 : IntKind.i64.wrap (xb + xd) = xb + xd := IntWalk.i64_in _ (by omega)
  have q2 : Int.tdiv (xb + xd) 2 = (xb + xd) / 2 := by rw [Int.tdiv_eq_ediv_of_dvd (by omega)]
  have r2 : IntKind.i64.wrap ((xb + xd) / 2) = (xb + xd) / 2 := IntWalk.i64_in _ (by omega)
  have e3 : IntKind.i64.wrap (xc - xa) = xc - xa := IntWalk.i64_in _ (by omega)
  have q3 : Int.tdiv (xc - xa) 2 = (xc - xa) / 2 := by rw [Int.tdiv_eq_ediv_of_dvd (by omega)]
  have r3 : IntKind.i64.wrap ((xc - xa) / 2) = (xc - xa) / 2 := IntWalk.i64_in _ (by omega)
  clear hev
  have S1 := Lib.hid ((((Sb.nil w).push [.int .i64 xa, .int .i64 xb, .int .i64 xc, .int .i64 xd] 84 rfl).push [.int .i64 0, .int .i64 0, .int .i64 0, .int .i64 0] 84 (g := w.heap.size + 1) (by simp)))
  have C1 := Lib.hid (fun W (S : Sb w.heap.size w W [(w.heap.size + 1, [.int .i64 0, .int .i64 0, .int .i64 0, .int .i64 0]), (w.heap.size, [.int .i64 xa, .int .i64 xb, .int .i64 xc, .int .i64 xd])]) => S.alloc (.cells #[.int .i64 xa, .int .i64 xb, .int .i64 xc, .int .i64 xd] 84))
  have O1 := Lib.hid (fun (W : World) (g : Nat) (hg : W.heap.size = g) => (show OwnE (W.alloc (.cells #[.int .i64 xa, .int .i64 xb, .int .i64 xc, .int .i64 xd] 84)) g 84 (.slice (some ⟨g, 0, none⟩) 1 1) Rg4.cs 4 [⟨xa, xb, xc, xd⟩] from own_new W 84 hg (Nat.le_refl _) rfl (by omega)))
  go_enter Tryz.func109, Tryz.ntmps109
  go_wp2_with fail
  generalize ((w.alloc (.cells #[.int .i64 xa, .int .i64 xb, .int .i64 xc, .int .i64 xd] 84)).alloc (.cells #[.int .i64 0, .int .i64 0, .int .i64 0, .int .i64 0] 84)) = wx at *
  refine (impl_IsValidRing_ok ⟨xa, xb, xc, xd⟩ _ HV.out).mono ?_; rintro e wv ⟨rfl, hbv⟩
  replace S1 := Lib.hid (S1.out.call hbv)
  obtain ⟨⟨c0, c1, c2, c3⟩, _⟩ := (S1.out.at 1 rfl).c4
  clear hbv
  go_wp2_with fail
  refine (impl_isEven_any ⟨xa, xb, xc, xd⟩ _ HV.out).mono ?_; rintro e wm ⟨rfl, hbm⟩
  rw [HE.out]
  replace S1 := Lib.hid (S1.out.call hbm)
  clear hbm c0 c1 c2 c3
  obtain ⟨⟨c0, c1, c2, c3⟩, _⟩ := (S1.out.at 1 rfl).c4
  go_wp2_with fail
  clear c0 c1 c2 c3
  have S2 := Lib.hid (C1.out _ S1.out)
  have O2 := Lib.hid (O1.out wm (wm.heap.size) (by simp))
  have z2 : wm.heap.size ≤ (wm.alloc (.cells #[.int .i64 xa, .int .i64 xb, .int .i64 xc, .int .i64 xd] 84)).heap.size := by simp
  have z3 : w.heap.size + 1 < wm.heap.size := S1.out.lt
  clear C1 O1 S1
  generalize (wm.alloc (.cells #[.int .i64 xa, .int .i64 xb, .int .i64 xc, .int .i64 xd] 84)) = w1 at *
  refine (impl_ringIf_ok (wm.heap.size) _ [⟨xa, xb, xc, xd⟩] ⟨(xb - xd) / 2, (xa + xc) / 2, (xb + xd) / 2, (xc - xa) / 2⟩ w1 O2.out z2 (by simp) HX.out HR.out).mono ?_; rintro e w2 ⟨rfl, hb2⟩
  replace S2 := Lib.hid (S2.out.callB hb2 (by omega) (fun p hp => by
    simp only [List.mem_cons, List.not_mem_nil, or_false] at hp
    rcases hp with rfl | rfl <;> (dsimp only; omega)))
  have S9 := Lib.hid ((((S2.out.set0 0 (.int .i64 ((xb - xd) / 2))).set0 1 (.int .i64 ((xa + xc) / 2))).set0 2 (.int .i64 ((xb + xd) / 2))).set0 3 (.int .i64 ((xc - xa) / 2)))
  obtain ⟨⟨c0, c1, c2, c3⟩, f0, f1, f2, f3⟩ := S2.out.head.c4
  clear hb2 S2 O2
  go_wp2_with fail
  clear c0 c1 c2 c3 f0 f1 f2 f3
  generalize (((w2.setCell ⟨w.heap.size + 1, 0, none⟩ (.int .i64 ((xb - xd) / 2))).setCell ⟨w.heap.size + 1, 1, none⟩ (.int .i64 ((xa + xc) / 2))).setCell ⟨w.heap.size + 1, 2, none⟩ (.int .i64 ((xb + xd) / 2))).setCell ⟨w.heap.size + 1, 3, none⟩ (.int .i64 ((xc - xa) / 2)) = w9 at *
  obtain ⟨⟨c0, c1, c2, c3⟩, _⟩ := S9.out.head.c4
  refine bodyPost_ret (v := .tuple #[.agg #[.int .i64 ((xb - xd) / 2), .int .i64 ((xa + xc) / 2), .int .i64 ((xb + xd) / 2), .int .i64 ((xc - xa) / 2)], .bool true]) (by simp [results, Tryz.results109, go_sem, c0, c1, c2, c3]) rfl ⟨?_, S9.out.bel⟩
  rw [HM.out]
end Go.Proofs.YtnckabohlakbgaaGreat
namespace Go.Proofs.YtnckabohlakbgaaGreat
set_option linter.unusedSimpArgs false
set_option linter.unusedVariables false
set_option linter.unnecessarySimpa false
set_option maxRecDepth 200000
open Go.ChangeShapes Go.WideShapes Go.ChangeAt Go.RowKit

abbrev Dy.cs (x : Dy) : List Value := [.int .i64 x.num.a, .int .i64 x.num.b, .int .i64 x.num.c, .int .i64 x.num.d, .int .i64 (x.exp : Int)]
abbrev Dy.v (x : Dy) : Value := .agg #[.int .i64 x.num.a, .int .i64 x.num.b, .int .i64 x.num.c, .int .i64 x.num.d, .int .i64 (x.exp : Int)]
theorem Dy.len (x : Dy) : x.cs.length = 5 := rfl
theorem Dy.ones (x : Dy) : ∀ u ∈ x.cs, u.oneCell' = true := by
  intro u hu
  simp only [Dy.cs, List.mem_cons, List.not_mem_nil, or_false] at hu
  rcases hu with rfl | rfl | rfl | rfl | rfl <;> rfl
/-- A valid number. -/
structure Dy.ok (x : Dy) : Prop where
  num : x.num.le 1000000000
  exp : x.exp ≤ 60
  low : x.low
set_option maxHeartbeats 4000000 in
theorem impl_IsValidDyadic_ok (x : Dy) (w : World) (h : x.ok) :
    Calls Tryz.prog 87 #[x.v] w fun e w' => e = .returned (.bool true) ∧ Below w.heap.size w w' := by
  obtain ⟨⟨a, b, c, d⟩, e⟩ := x
  have HN := Lib.hid h.num
  have he : e ≤ 60 := h.exp
  have HW := Lib.hid (show inB (e : Int) 0 60 = true from by simp [inB]; omega)
  have hl := h.low
  clear h
  have S0 := Lib.hid ((Sb.nil w).push (Dy.cs ⟨⟨a, b, c, d⟩, e⟩) 86 rfl)
  dsimp only [Dy.cs, Dy.v] at S0 ⊢
  by_cases h0 : e = 0
  · subst h0
    clear hl he
    go_enter Tryz.func87, Tryz.ntmps87
    go_wp2_with fail
    generalize (w.alloc (.cells #[.int .i64 a, .int .i64 b, .int .i64 c, .int .i64 d, .int .i64 0] 86)) = w1 at *
    refine (impl_IsValidRing_ok ⟨a, b, c, d⟩ _ HN.out).mono ?_; rintro e w2 ⟨rfl, hb2⟩
    have S2 := Lib.hid (S0.out.call hb2)
    obtain ⟨⟨c0, c1, c2, c3, c4⟩, _⟩ := S2.out.head.c5
    go_wp2_with fail
    refine (within_is HW.out _).mono ?_; rintro e w3 ⟨rfl, rfl⟩
    go_wp2_with fail
    go_ret
    exact ⟨rfl, S2.out.bel⟩
  · have HE := Lib.hid (show (⟨a, b, c, d⟩ : Rg4).evn = false from by rcases hl with hl | hl; exact absurd hl h0; exact hl)
    have he0 : ((e : Int) == 0) = false := by simp; omega
    clear hl h0
    go_enter Tryz.func87, Tryz.ntmps87
    go_wp2_with fail
    generalize (w.alloc (.cells #[.int .i64 a, .int .i64 b, .int .i64 c, .int .i64 d, .int .i64 (e : Int)] 86)) = w1 at *
    refine (impl_IsValidRing_ok ⟨a, b, c, d⟩ _ HN.out).mono ?_; rintro e2 w2 ⟨rfl, hb2⟩
    have S2 := Lib.hid (S0.out.call hb2)
    clear hb2
    obtain ⟨⟨c0, c1, c2, c3, c4⟩, _⟩ := S2.out.head.c5
    go_wp2_with fail
    refine (within_is HW.out _).mono ?_; rintro e2 w3 ⟨rfl, rfl⟩
    go_wp2_with fail
    refine (impl_isEven_any ⟨a, b, c, d⟩ _ HN.out).mono ?_; rintro e2 w4 ⟨rfl, hb4⟩
    rw [HE.out]
    have S4 := Lib.hid (S2.out.call hb4)
    clear hb4
    go_wp2_with fail
    go_ret
    exact ⟨rfl, S4.out.bel⟩
set_option maxHeartbeats 4000000 in
theorem impl_DyadicOf_ok (x : Rg4) (e : Nat) (w : World) (hx : x.le 1000000000) (he : e ≤ 60) :
    Calls Tryz.prog 88 #[x.v, .int .i64 (e : Int)] w fun r w' => r = .returned (.tuple #[(nrm x e).v, .bool true]) ∧ Below w.heap.size w w' := by
  have HX := Lib.hid hx
  have HW := Lib.hid (show inB (e : Int) 0 60 = true from by simp [inB]; omega)
  have S0 := Lib.hid (((Sb.nil w).push x.cs 84 rfl).push [.int .i64 0, .int .i64 0, .int .i64 0, .int .i64 0, .int .i64 0] 86 (g := w.heap.size + 1) (by simp))
  have HM : Hid (nrm x e = nrm x e) := (show nrm x e = nrm x e from rfl)
  obtain ⟨R, hR⟩ : ∃ R, R = nrm x e := ⟨_, rfl⟩
  rw [← hR]
  have HR0 := Lib.hid hR
  have HXL := Lib.hid hx
  clear hx HM hR
  obtain ⟨a, b, c, d⟩ := x
  dsimp only [Rg4.cs, Rg4.v] at S0 ⊢
  go_enter Tryz.func88, Tryz.ntmps88
  go_wp2_with fail
  generalize ((w.alloc (.cells #[.int .i64 a, .int .i64 b, .int .i64 c, .int .i64 d] 84)).alloc (.cells #[.int .i64 0, .int .i64 0, .int .i64 0, .int .i64 0, .int .i64 0] 86)) = w1 at *
  refine (impl_IsValidRing_ok ⟨a, b, c, d⟩ _ HX.out).mono ?_; rintro e2 w2 ⟨rfl, hb2⟩
  have S2 := Lib.hid (S0.out.call hb2)
  clear hb2 S0
  go_wp2_with fail
  refine (within_is HW.out _).mono ?_; rintro e2 w3 ⟨rfl, rfl⟩
  go_wp2_with fail
  go_loopw [1] (fun i wr => ∃ (k : Nat) (y : Rg4), k ≤ e ∧ i = .int .i64 k ∧ Hid (y.le 1000000000) ∧ Hid (R = nrm y k) ∧ Hid (Sb w.heap.size w wr [(w.heap.size + 1, [.int .i64 0, .int .i64 0, .int .i64 0, .int .i64 0, .int .i64 0]), (w.heap.size, y.cs)])) (fun i _ => (intOf i).toNat)
  case atStart => exact ⟨e, ⟨a, b, c, d⟩, Nat.le_refl _, rfl, HXL, HR0, S2⟩
  case round =>
    clear S2 HXL HR0 HX HW
    obtain ⟨k, ⟨ya, yb, yc, yd⟩, hk, rfl, hle, hR, hS⟩ := hrel
    obtain ⟨⟨b0, b1, b2, b3⟩, g0, g1, g2, g3⟩ := (hS.out.at 1 rfl).c4
    obtain ⟨⟨c0, c1, c2, c3, c4⟩, f0, f1, f2, f3, f4⟩ := hS.out.head.c5
    by_cases h0 : k = 0
    · subst h0
      have HR := Lib.hid (show R = ⟨⟨ya, yb, yc, yd⟩, 0⟩ from hR.out)
      have S9 := Lib.hid (((((hS.out.set0 0 (.int .i64 ya)).set0 1 (.int .i64 yb)).set0 2 (.int .i64 yc)).set0 3 (.int .i64 yd)).set0 4 (.int .i64 0))
      clear hS hR
      go_wp2_with fail
      clear b0 b1 b2 b3 g0 g1 g2 g3 c0 c1 c2 c3 c4 f0 f1 f2 f3 f4
      generalize ((((wr.setCell ⟨w.heap.size + 1, 0, none⟩ (.int .i64 ya)).setCell ⟨w.heap.size + 1, 1, none⟩ (.int .i64 yb)).setCell ⟨w.heap.size + 1, 2, none⟩ (.int .i64 yc)).setCell ⟨w.heap.size + 1, 3, none⟩ (.int .i64 yd)).setCell ⟨w.heap.size + 1, 4, none⟩ (.int .i64 0) = w9 at *
      obtain ⟨⟨c0, c1, c2, c3, c4⟩, _⟩ := S9.out.head.c5
      refine bodyPost_ret (v := .tuple #[.agg #[.int .i64 ya, .int .i64 yb, .int .i64 yc, .int .i64 yd, .int .i64 0], .bool true]) (by simp [results, Tryz.results88, go_sem, c0, c1, c2, c3, c4]) rfl ⟨?_, S9.out.bel⟩
      rw [HR.out]; rfl
    · have k1 : 0 < k := by omega
      cases hev : (⟨ya, yb, yc, yd⟩ : Rg4).evn with
      | false =>
        have HEV := Lib.hid hev
        have HR := Lib.hid (show R = ⟨⟨ya, yb, yc, yd⟩, k⟩ from by
          rw [hR.out]
          obtain ⟨j, rfl⟩ : ∃ j, k = j + 1 := ⟨k - 1, by omega⟩
          simp only [nrm, hev]; rfl)
        clear hev hR c0 c1 c2 c3 c4 f0 f1 f2 f3 f4 g0 g1 g2 g3
        go_wp2_with fail
        refine (impl_isEven_any ⟨ya, yb, yc, yd⟩ _ hle.out).mono ?_; rintro e2 w5 ⟨rfl, hb5⟩
        rw [HEV.out]
        have S5 := Lib.hid (hS.out.call hb5)
        clear hb5 hS b0 b1 b2 b3
        obtain ⟨⟨b0, b1, b2, b3⟩, g0, g1, g2, g3⟩ := (S5.out.at 1 rfl).c4
        obtain ⟨⟨c0, c1, c2, c3, c4⟩, f0, f1, f2, f3, f4⟩ := S5.out.head.c5
        have S9 := Lib.hid (((((S5.out.set0 0 (.int .i64 ya)).set0 1 (.int .i64 yb)).set0 2 (.int .i64 yc)).set0 3 (.int .i64 yd)).set0 4 (.int .i64 (k : Int)))
        clear S5
        go_wp2_with fail
        clear b0 b1 b2 b3 g0 g1 g2 g3 c0 c1 c2 c3 c4 f0 f1 f2 f3 f4
        generalize ((((w5.setCell ⟨w.heap.size + 1, 0, none⟩ (.int .i64 ya)).setCell ⟨w.heap.size + 1, 1, none⟩ (.int .i64 yb)).setCell ⟨w.heap.size + 1, 2, none⟩ (.int .i64 yc)).setCell ⟨w.heap.size + 1, 3, none⟩ (.int .i64 yd)).setCell ⟨w.heap.size + 1, 4, none⟩ (.int .i64 (k : Int)) = w9 at *
        obtain ⟨⟨c0, c1, c2, c3, c4⟩, _⟩ := S9.out.head.c5
        refine bodyPost_ret (v := .tuple #[.agg #[.int .i64 ya, .int .i64 yb, .int .i64 yc, .int .i64 yd, .int .i64 (k : Int)], .bool true]) (by simp [results, Tryz.results88, go_sem, c0, c1, c2, c3, c4]) rfl ⟨?_, S9.out.bel⟩
        rw [HR.out]
      | true =>
        have HEV := Lib.hid hev
        have HR := Lib.hid (show R = nrm (⟨ya, yb, yc, yd⟩ : Rg4).hf (k - 1) from by
          rw [hR.out]
          obtain ⟨j, rfl⟩ : ∃ j, k = j + 1 := ⟨k - 1, by omega⟩
          simp only [nrm, hev]; rfl)
        have HF := Lib.hid (Rg4.hf_le hle.out)
        have CD := Lib.hid (fun W => impl_DivRootTwo_ok ⟨ya, yb, yc, yd⟩ W hle.out hev)
        clear hev hR c0 c1 c2 c3 c4 f0 f1 f2 f3 f4 g0 g1 g2 g3
        generalize (⟨ya, yb, yc, yd⟩ : Rg4).hf = z at *
        obtain ⟨za, zb, zc, zd⟩ := z
        go_wp2_with fail
        refine (impl_isEven_any ⟨ya, yb, yc, yd⟩ _ hle.out).mono ?_; rintro e2 w5 ⟨rfl, hb5⟩
        rw [HEV.out]
        have S5 := Lib.hid (hS.out.call hb5)
        clear hb5 hS b0 b1 b2 b3
        obtain ⟨⟨b0, b1, b2, b3⟩, g0, g1, g2, g3⟩ := (S5.out.at 1 rfl).c4
        go_wp2_with fail
        refine (CD.out _).mono ?_; rintro e2 w6 ⟨rfl, hb6⟩
        have S6 := Lib.hid (S5.out.call hb6)
        clear hb6 S5 b0 b1 b2 b3 g0 g1 g2 g3
        obtain ⟨⟨b0, b1, b2, b3⟩, g0, g1, g2, g3⟩ := (S6.out.at 1 rfl).c4
        have S7 := Lib.hid ((((S6.out.set1 0 (.int .i64 za)).set1 1 (.int .i64 zb)).set1 2 (.int .i64 zc)).set1 3 (.int .i64 zd))
        clear S6
        go_wp2_with fail
        go_roundw
        case rel => exact ⟨k - 1, ⟨za, zb, zc, zd⟩, by omega, by congr 1; omega, HF, HR, S7⟩
        case measure => simp [intOf]; omega
end Go.Proofs.YtnckabohlakbgaaGreat
