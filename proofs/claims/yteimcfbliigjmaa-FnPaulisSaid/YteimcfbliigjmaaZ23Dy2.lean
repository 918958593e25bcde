/- The program's ringIf: a number if it and some arguments are valid. -/
import Derived.Test.YteimcfbliigjmaaZ22Dy1
import Derived.BigRegion
import Derived.BigQuiet
namespace Go.Proofs.Yteimcfbliigjmaa
set_option linter.unusedSimpArgs false
set_option linter.unusedVariables false
set_option linter.unnecessarySimpa false
set_option maxRecDepth 200000
open Go.ChangeShapes Go.WideShapes Go.ChangeAt Go.RowKit

theorem ring_info : (Try.prog.info? 58).map (fun i => (i.zero, i.size, i.bytes)) = some (some (.agg #[.int .i64 0, .int .i64 0, .int .i64 0, .int .i64 0]), 4, 32) := by kernel_rfl
set_option maxHeartbeats 4000000 in
theorem impl_ringIf_ok (B : Nat) (v : Value) (xs : List Rg4) (out : Rg4) (w : World) (hv : OwnE w B 58 v Rg4.cs 4 xs) (hB : B ≤ w.heap.size) (hn : xs.length ≤ 10) (h : ∀ x ∈ xs, x.le 1000000000) (ho : out.le 1000000000) :
    Calls Try.prog 58 #[out.v, v] w fun e w' => e = .returned (.tuple #[out.v, .bool true]) ∧ Below B w w' := by
  obtain ⟨i0, hi, hz0, hz1, hz2⟩ := info_parts ring_info
  obtain ⟨a, c, rfl⟩ := own_form hv
  have HA := Lib.hid (show ∀ x ∈ xs ++ [out], x.le 1000000000 from fun x hx => by
    rcases List.mem_append.1 hx with hx | hx
    · exact h x hx
    · simp only [List.mem_singleton] at hx; subst hx; exact ho)
  clear h ho
  have S0 := Lib.hid ((((Sb.nilB w hB).push out.cs 58 rfl).push [.int .i64 0, .int .i64 0, .int .i64 0, .int .i64 0] 58 (g := w.heap.size + 1) (by simp)).alloc (.cells out.cs.toArray 58))
  have O0 := Lib.hid ((hv.alloc (.cells out.cs.toArray 58)).alloc (.cells #[.int .i64 0, .int .i64 0, .int .i64 0, .int .i64 0] 58) |>.alloc (.cells out.cs.toArray 58))
  have R0 := Lib.hid (reads_news ((w.alloc (.cells out.cs.toArray 58)).alloc (.cells #[.int .i64 0, .int .i64 0, .int .i64 0, .int .i64 0] 58)) out.cs 58 4 1 rfl)
  have hlt0 := hv.lt
  have HL := Lib.hid hlt0
  clear hv hlt0
  obtain ⟨oa, ob, oc, od⟩ := out
  go_enter Try.func58, Try.ntmps58
  go_wp2_with (at_builtin; go_loud (refine wpList_append_any _ rfl _ _ 99 rfl B 58 i0 (.agg #[.int .i64 0, .int .i64 0, .int .i64 0, .int .i64 0]) 4 32 Try.underlying99 hi hz0 hz1 hz2 rfl (by decide) (.slice a xs.length c) xs.length (xs.flatMap Rg4.cs) ?hs ?ho (w.heap.size + 3) (some ⟨w.heap.size + 2, 0, none⟩) 1 1 (Rg4.cs ⟨oa, ob, oc, od⟩) ?hx ?hr (Rg4.ones _) ?h63 ?hb ?hbs ?_; (case hs => rfl); (case hx => rfl); (case h63 => (unfold maxLen; omega)); (case hb => omega); (case hbs => (simp; omega)); (case ho => with_reducible exact O0.out); (case hr => simpa using R0.out); intro v1 w1 hown1 hg1 hat1; obtain ⟨a1, c1, rfl⟩ := own_form hown1))
  have S1 := Lib.hid (S0.out.kept hg1 (fun b hb => ⟨(HL.out b hb).1, fun p hp e => by
    have := (HL.out b hb).2
    simp only [List.mem_cons, List.not_mem_nil, or_false] at hp
    rcases hp with rfl | rfl <;> (dsimp only at e; omega)⟩))
  have O1 := Lib.hid (show OwnE w1 B 58 (.slice a1 (xs.length + 1) c1) Rg4.cs 4 (xs ++ [⟨oa, ob, oc, od⟩]) from by unfold OwnE; rw [List.length_append, List.flatMap_append]; simpa using hown1)
  clear hown1 hg1 hat1 S0 O0 R0 HL hi hz0 hz1 hz2
  clear i0
  obtain ⟨ys, hys⟩ : ∃ ys, ys = xs ++ [(⟨oa, ob, oc, od⟩ : Rg4)] := ⟨_, rfl⟩
  have hyl : xs.length + 1 = ys.length := by rw [hys]; simp
  rw [← hys] at HA O1
  have HY := Lib.hid hyl
  clear hys hyl
  go_loopw [13] (fun i wr => ∃ k : Nat, k ≤ xs.length + 1 ∧ i = .int .i64 k ∧ Hid (Sb B w wr [(w.heap.size + 1, [.int .i64 0, .int .i64 0, .int .i64 0, .int .i64 0]), (w.heap.size, Rg4.cs ⟨oa, ob, oc, od⟩)]) ∧ Hid (OwnE wr B 58 (.slice a1 (xs.length + 1) c1) Rg4.cs 4 ys)) (fun i _ => xs.length + 1 - (intOf i).toNat)
  case atStart => exact ⟨0, Nat.zero_le _, rfl, S1, O1⟩
  case round =>
    clear S1 O1
    obtain ⟨k, hk, rfl, hS, hO⟩ := hrel
    by_cases hlt : k < xs.length + 1
    · have i1 : (k : Int) < (xs.length : Int) + 1 := by omega
      obtain ⟨g, rfl, hBg, hgl, hc⟩ := own_at Rg4.len hO.out k (by rw [← HY.out]; exact hlt)
      have hly : k < ys.length := by rw [← HY.out]; exact hlt
      have hle := HA.out ys[k] (List.getElem_mem hly)
      have k0 := hc 0 _ (by decide) rfl
      rw [Nat.add_zero] at k0
      have k1 := hc 1 _ (by decide) rfl
      have k2 := hc 2 _ (by decide) rfl
      have k3 := hc 3 _ (by decide) rfl
      clear hc
      generalize ys[k] = y at *
      clear hly
      obtain ⟨ya, yb, yc, yd⟩ := y
      have HLE := Lib.hid hle
      clear hle
      dsimp only at k0 k1 k2 k3
      have S2 := Lib.hid (hS.out.alloc (.cells #[.int .i64 ya, .int .i64 yb, .int .i64 yc, .int .i64 yd] 58))
      have O2 := Lib.hid (OwnE.below hO.out (show Below wr.heap.size wr (wr.alloc (.cells #[.int .i64 ya, .int .i64 yb, .int .i64 yc, .int .i64 yd] 58)) from (by repeat (first | exact Below.refl _ _ | assumption | refine Below.drew ?_ | refine below_drewN ?_ _ | refine Below.alloc ?_ (by first | omega | (simp <;> omega)) _ | refine Below.setCell ?_ (by first | omega | (simp <;> omega)) _ | refine Below.trans ?_ (Below.mono (by assumption) (by first | omega | (simp <;> omega)))))) rfl)
      go_wp2_with fail
      generalize (wr.alloc (.cells #[.int .i64 ya, .int .i64 yb, .int .i64 yc, .int .i64 yd] 58)) = w2 at *
      refine (impl_IsValidRing_ok _ _ HLE.out).mono ?_; rintro e w3 ⟨rfl, hb3⟩
      have S3 := Lib.hid (S2.out.call hb3)
      have O3 := Lib.hid (OwnE.below O2.out hb3 rfl)
      clear hb3 S2 O2
      go_wp2_with fail
      go_roundw
      case rel => exact ⟨k + 1, by omega, by go_num, S3, O3⟩
      case measure => simp [intOf]; omega
    · have i1 : ¬ (k : Int) < (xs.length : Int) + 1 := by omega
      have B1 := hS.out.at 1 rfl
      obtain ⟨⟨b0, b1, b2, b3⟩, g0, g1, g2, g3⟩ := B1.c4
      obtain ⟨⟨c0, c1, c2, c3⟩, f0, f1, f2, f3⟩ := hS.out.head.c4
      have S9 := Lib.hid ((((hS.out.set0 0 (.int .i64 oa)).set0 1 (.int .i64 ob)).set0 2 (.int .i64 oc)).set0 3 (.int .i64 od))
      clear hS hO B1
      go_wp2_with fail
      clear b0 b1 b2 b3 g0 g1 g2 g3 c0 c1 c2 c3 f0 f1 f2 f3
      generalize (((wr.setCell ⟨w.heap.size + 1, 0, none⟩ (.int .i64 oa)).setCell ⟨w.heap.size + 1, 1, none⟩ (.int .i64 ob)).setCell ⟨w.heap.size + 1, 2, none⟩ (.int .i64 oc)).setCell ⟨w.heap.size + 1, 3, none⟩ (.int .i64 od) = w9 at *
      obtain ⟨⟨c0, c1, c2, c3⟩, _⟩ := S9.out.head.c4
      refine bodyPost_ret (v := .tuple #[.agg #[.int .i64 oa, .int .i64 ob, .int .i64 oc, .int .i64 od], .bool true]) (by simp [results, Try.results58, go_sem, c0, c1, c2, c3]) rfl ⟨rfl, S9.out.bel⟩
end Go.Proofs.Yteimcfbliigjmaa
