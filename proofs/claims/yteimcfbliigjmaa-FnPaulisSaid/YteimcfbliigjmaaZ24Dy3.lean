/- The program's arithmetic of the numbers a + bw + cw^2 + dw^3 (written by gendy3.py). -/
import Derived.Test.YteimcfbliigjmaaZ23Dy2
import Derived.BigRegion
import Derived.BigQuiet
namespace Go.Proofs.Yteimcfbliigjmaa
set_option linter.unusedSimpArgs false
set_option linter.unusedVariables false
set_option linter.unnecessarySimpa false
set_option maxRecDepth 200000
open Go.ChangeShapes Go.WideShapes Go.ChangeAt Go.RowKit

/-- A slice that has just been laid. -/
theorem own_new {base g sz n : Nat} {us : List Value} (w : World) (t : TypeId) (hg : w.heap.size = g) (hb : base ≤ g) (hl : us.length = n * sz) (hn : n ≤ 1000) :
    (w.alloc (.cells us.toArray t)).ownsRow base t sz (.slice (some ⟨g, 0, none⟩) n n) n us := by
  subst hg
  refine ⟨hl, .inr ⟨w.heap.size, n, us.toArray, rfl, hb, ?_, Nat.le_refl _, by unfold maxLen; omega, by simp [hl], by rw [← hl]; simp⟩⟩
  show (w.heap.push _)[w.heap.size]? = _
  simp
theorem all2 {x y : Rg4} {M : Int} (hx : x.le M) (hy : y.le M) : ∀ z ∈ [x, y], z.le M := by
  intro z hz
  simp only [List.mem_cons, List.not_mem_nil, or_false] at hz
  rcases hz with rfl | rfl
  · exact hx
  · exact hy
theorem all1 {x : Rg4} {M : Int} (hx : x.le M) : ∀ z ∈ [x], z.le M := by
  intro z hz
  simp only [List.mem_cons, List.not_mem_nil, or_false] at hz
  subst hz
  exact hx
set_option maxHeartbeats 4000000 in
theorem impl_AddRing_ok (x y : Rg4) (w : World) (hx : x.le 1000000000) (hy : y.le 1000000000) (hr : (x.add y).le 1000000000) :
    Calls Try.prog 54 #[x.v, y.v] w fun e w' => e = .returned (.tuple #[(x.add y).v, .bool true]) ∧ Below w.heap.size w w' := by
  have HX := Lib.hid (all2 hx hy)
  have HR := Lib.hid hr
  clear hr
  obtain ⟨hx1, hx2, hx3, hx4⟩ := hx
  obtain ⟨hy1, hy2, hy3, hy4⟩ := hy
  obtain ⟨xa, xb, xc, xd⟩ := x
  obtain ⟨ya, yb, yc, yd⟩ := y
  dsimp only at hx1 hx2 hx3 hx4 hy1 hy2 hy3 hy4
  have HM := Lib.hid (show (⟨xa, xb, xc, xd⟩ : Rg4).add ⟨ya, yb, yc, yd⟩ = (⟨xa + ya, xb + yb, xc + yc, xd + yd⟩ : Rg4) from rfl)
  replace HR := Lib.hid (show Rg4.le ⟨xa + ya, xb + yb, xc + yc, xd + yd⟩ 1000000000 from HR.out)
  have e0 : IntKind.i64.wrap (xa + ya) = xa + ya := IntWalk.i64_in _ (by omega)
  have e1 : IntKind.i64.wrap (xb + yb) = xb + yb := IntWalk.i64_in _ (by omega)
  have e2 : IntKind.i64.wrap (xc + yc) = xc + yc := IntWalk.i64_in _ (by omega)
  have e3 : IntKind.i64.wrap (xd + yd) = xd + yd := IntWalk.i64_in _ (by omega)
  have S1 := Lib.hid (((((Sb.nil w).push [.int .i64 xa, .int .i64 xb, .int .i64 xc, .int .i64 xd] 58 rfl).push [.int .i64 ya, .int .i64 yb, .int .i64 yc, .int .i64 yd] 58 (g := w.heap.size + 1) (by simp)).push [.int .i64 0, .int .i64 0, .int .i64 0, .int .i64 0] 58 (g := w.heap.size + 1 + 1) (by simp)))
  have C1 := Lib.hid (fun W (S : Sb w.heap.size w W [(w.heap.size + 1 + 1, [.int .i64 0, .int .i64 0, .int .i64 0, .int .i64 0]), (w.heap.size + 1, [.int .i64 ya, .int .i64 yb, .int .i64 yc, .int .i64 yd]), (w.heap.size, [.int .i64 xa, .int .i64 xb, .int .i64 xc, .int .i64 xd])]) => S.alloc (.cells #[.int .i64 xa, .int .i64 xb, .int .i64 xc, .int .i64 xd, .int .i64 ya, .int .i64 yb, .int .i64 yc, .int .i64 yd] 58))
  have O1 := Lib.hid (fun (W : World) (g : Nat) (hg : W.heap.size = g) => (show OwnE (W.alloc (.cells #[.int .i64 xa, .int .i64 xb, .int .i64 xc, .int .i64 xd, .int .i64 ya, .int .i64 yb, .int .i64 yc, .int .i64 yd] 58)) g 58 (.slice (some ⟨g, 0, none⟩) 2 2) Rg4.cs 4 [⟨xa, xb, xc, xd⟩, ⟨ya, yb, yc, yd⟩] from own_new W 58 hg (Nat.le_refl _) rfl (by omega)))
  go_enter Try.func54, Try.ntmps54
  go_wp2_with fail
  have S2 := Lib.hid (C1.out _ S1.out)
  have O2 := Lib.hid (O1.out (((w.alloc (.cells #[.int .i64 xa, .int .i64 xb, .int .i64 xc, .int .i64 xd] 58)).alloc (.cells #[.int .i64 ya, .int .i64 yb, .int .i64 yc, .int .i64 yd] 58)).alloc (.cells #[.int .i64 0, .int .i64 0, .int .i64 0, .int .i64 0] 58)) (w.heap.size + 1 + 1 + 1) (by simp))
  have z2 : w.heap.size + 1 + 1 + 1 ≤ ((((w.alloc (.cells #[.int .i64 xa, .int .i64 xb, .int .i64 xc, .int .i64 xd] 58)).alloc (.cells #[.int .i64 ya, .int .i64 yb, .int .i64 yc, .int .i64 yd] 58)).alloc (.cells #[.int .i64 0, .int .i64 0, .int .i64 0, .int .i64 0] 58)).alloc (.cells #[.int .i64 xa, .int .i64 xb, .int .i64 xc, .int .i64 xd, .int .i64 ya, .int .i64 yb, .int .i64 yc, .int .i64 yd] 58)).heap.size := by simp
  clear C1 O1 S1
  generalize ((((w.alloc (.cells #[.int .i64 xa, .int .i64 xb, .int .i64 xc, .int .i64 xd] 58)).alloc (.cells #[.int .i64 ya, .int .i64 yb, .int .i64 yc, .int .i64 yd] 58)).alloc (.cells #[.int .i64 0, .int .i64 0, .int .i64 0, .int .i64 0] 58)).alloc (.cells #[.int .i64 xa, .int .i64 xb, .int .i64 xc, .int .i64 xd, .int .i64 ya, .int .i64 yb, .int .i64 yc, .int .i64 yd] 58)) = w1 at *
  refine (impl_ringIf_ok (w.heap.size + 1 + 1 + 1) _ [⟨xa, xb, xc, xd⟩, ⟨ya, yb, yc, yd⟩] ⟨xa + ya, xb + yb, xc + yc, xd + yd⟩ w1 O2.out z2 (by simp) HX.out HR.out).mono ?_; rintro e w2 ⟨rfl, hb2⟩
  replace S2 := Lib.hid (S2.out.callB hb2 (by omega) (fun p hp => by
    simp only [List.mem_cons, List.not_mem_nil, or_false] at hp
    rcases hp with rfl | rfl | rfl <;> (dsimp only; omega)))
  have S9 := Lib.hid ((((S2.out.set0 0 (.int .i64 (xa + ya))).set0 1 (.int .i64 (xb + yb))).set0 2 (.int .i64 (xc + yc))).set0 3 (.int .i64 (xd + yd)))
  obtain ⟨⟨c0, c1, c2, c3⟩, f0, f1, f2, f3⟩ := S2.out.head.c4
  clear hb2 S2 O2
  go_wp2_with fail
  clear c0 c1 c2 c3 f0 f1 f2 f3
  generalize (((w2.setCell ⟨w.heap.size + 1 + 1, 0, none⟩ (.int .i64 (xa + ya))).setCell ⟨w.heap.size + 1 + 1, 1, none⟩ (.int .i64 (xb + yb))).setCell ⟨w.heap.size + 1 + 1, 2, none⟩ (.int .i64 (xc + yc))).setCell ⟨w.heap.size + 1 + 1, 3, none⟩ (.int .i64 (xd + yd)) = w9 at *
  obtain ⟨⟨c0, c1, c2, c3⟩, _⟩ := S9.out.head.c4
  refine bodyPost_ret (v := .tuple #[.agg #[.int .i64 (xa + ya), .int .i64 (xb + yb), .int .i64 (xc + yc), .int .i64 (xd + yd)], .bool true]) (by simp [results, Try.results54, go_sem, c0, c1, c2, c3]) rfl ⟨?_, S9.out.bel⟩
  rw [HM.out]
set_option maxHeartbeats 4000000 in
theorem impl_MulRootTwo_ok (x : Rg4) (w : World) (hx : x.le 1000000000) (hr : x.rt.le 1000000000) :
    Calls Try.prog 64 #[x.v] w fun e w' => e = .returned (.tuple #[(x.rt).v, .bool true]) ∧ Below w.heap.size w w' := by
  have HX := Lib.hid (all1 hx)
  have HR := Lib.hid hr
  clear hr
  obtain ⟨hx1, hx2, hx3, hx4⟩ := hx
  obtain ⟨xa, xb, xc, xd⟩ := x
  dsimp only at hx1 hx2 hx3 hx4
  have HM := Lib.hid (show (⟨xa, xb, xc, xd⟩ : Rg4).rt = (⟨xb - xd, xa + xc, xb + xd, xc - xa⟩ : Rg4) from rfl)
  replace HR := Lib.hid (show Rg4.le ⟨xb - xd, xa + xc, xb + xd, xc - xa⟩ 1000000000 from HR.out)
  have e0 : IntKind.i64.wrap (xb - xd) = xb - xd := IntWalk.i64_in _ (by omega)
  have e1 : IntKind.i64.wrap (xa + xc) = xa + xc := IntWalk.i64_in _ (by omega)
  have e2 : IntKind.i64.wrap (xb + xd) = xb + xd := IntWalk.i64_in _ (by omega)
  have e3 : IntKind.i64.wrap (xc - xa) = xc - xa := IntWalk.i64_in _ (by omega)
  have S1 := Lib.hid ((((Sb.nil w).push [.int .i64 xa, .int .i64 xb, .int .i64 xc, .int .i64 xd] 58 rfl).push [.int .i64 0, .int .i64 0, .int .i64 0, .int .i64 0] 58 (g := w.heap.size + 1) (by simp)))
  have C1 := Lib.hid (fun W (S : Sb w.heap.size w W [(w.heap.size + 1, [.int .i64 0, .int .i64 0, .int .i64 0, .int .i64 0]), (w.heap.size, [.int .i64 xa, .int .i64 xb, .int .i64 xc, .int .i64 xd])]) => S.alloc (.cells #[.int .i64 xa, .int .i64 xb, .int .i64 xc, .int .i64 xd] 58))
  have O1 := Lib.hid (fun (W : World) (g : Nat) (hg : W.heap.size = g) => (show OwnE (W.alloc (.cells #[.int .i64 xa, .int .i64 xb, .int .i64 xc, .int .i64 xd] 58)) g 58 (.slice (some ⟨g, 0, none⟩) 1 1) Rg4.cs 4 [⟨xa, xb, xc, xd⟩] from own_new W 58 hg (Nat.le_refl _) rfl (by omega)))
  go_enter Try.func64, Try.ntmps64
  go_wp2_with fail
  have S2 := Lib.hid (C1.out _ S1.out)
  have O2 := Lib.hid (O1.out ((w.alloc (.cells #[.int .i64 xa, .int .i64 xb, .int .i64 xc, .int .i64 xd] 58)).alloc (.cells #[.int .i64 0, .int .i64 0, .int .i64 0, .int .i64 0] 58)) (w.heap.size + 1 + 1) (by simp))
  have z2 : w.heap.size + 1 + 1 ≤ (((w.alloc (.cells #[.int .i64 xa, .int .i64 xb, .int .i64 xc, .int .i64 xd] 58)).alloc (.cells #[.int .i64 0, .int .i64 0, .int .i64 0, .int .i64 0] 58)).alloc (.cells #[.int .i64 xa, .int .i64 xb, .int .i64 xc, .int .i64 xd] 58)).heap.size := by simp
  clear C1 O1 S1
  generalize (((w.alloc (.cells #[.int .i64 xa, .int .i64 xb, .int .i64 xc, .int .i64 xd] 58)).alloc (.cells #[.int .i64 0, .int .i64 0, .int .i64 0, .int .i64 0] 58)).alloc (.cells #[.int .i64 xa, .int .i64 xb, .int .i64 xc, .int .i64 xd] 58)) = w1 at *
  refine (impl_ringIf_ok (w.heap.size + 1 + 1) _ [⟨xa, xb, xc, xd⟩] ⟨xb - xd, xa + xc, xb + xd, xc - xa⟩ w1 O2.out z2 (by simp) HX.out HR.out).mono ?_; rintro e w2 ⟨rfl, hb2⟩
  replace S2 := Lib.hid (S2.out.callB hb2 (by omega) (fun p hp => by
    simp only [List.mem_cons, List.not_mem_nil, or_false] at hp
    rcases hp with rfl | rfl <;> (dsimp only; omega)))
  have S9 := Lib.hid ((((S2.out.set0 0 (.int .i64 (xb - xd))).set0 1 (.int .i64 (xa + xc))).set0 2 (.int .i64 (xb + xd))).set0 3 (.int .i64 (xc - xa)))
  obtain ⟨⟨c0, c1, c2, c3⟩, f0, f1, f2, f3⟩ := S2.out.head.c4
  clear hb2 S2 O2
  go_wp2_with fail
  clear c0 c1 c2 c3 f0 f1 f2 f3
  generalize (((w2.setCell ⟨w.heap.size + 1, 0, none⟩ (.int .i64 (xb - xd))).setCell ⟨w.heap.size + 1, 1, none⟩ (.int .i64 (xa + xc))).setCell ⟨w.heap.size + 1, 2, none⟩ (.int .i64 (xb + xd))).setCell ⟨w.heap.size + 1, 3, none⟩ (.int .i64 (xc - xa)) = w9 at *
  obtain ⟨⟨c0, c1, c2, c3⟩, _⟩ := S9.out.head.c4
  refine bodyPost_ret (v := .tuple #[.agg #[.int .i64 (xb - xd), .int .i64 (xa + xc), .int .i64 (xb + xd), .int .i64 (xc - xa)], .bool true]) (by simp [results, Try.results64, go_sem, c0, c1, c2, c3]) rfl ⟨?_, S9.out.bel⟩
  rw [HM.out]
set_option maxHeartbeats 4000000 in
theorem impl_MulRing_ok (x y : Rg4) (w : World) (A B : Int) (hx : x.le A) (hy : y.le B) (hA : A ≤ 1000000000) (hB : B ≤ 1000000000) (hK : 4 * (A * B) ≤ 1000000000) :
    Calls Try.prog 45 #[x.v, y.v] w fun e w' => e = .returned (.tuple #[(x.mul y).v, .bool true]) ∧ Below w.heap.size w w' := by
  have HX := Lib.hid (all2 (hx.mono hA) (hy.mono hB))
  have hml := Rg4.mul_le hx hy
  have HR := Lib.hid (hml.mono hK)
  clear hml
  obtain ⟨hx1, hx2, hx3, hx4⟩ := hx
  obtain ⟨hy1, hy2, hy3, hy4⟩ := hy
  have baa := Rg4.prod_in hx1 hy1
  have bab := Rg4.prod_in hx1 hy2
  have bac := Rg4.prod_in hx1 hy3
  have bad := Rg4.prod_in hx1 hy4
  have bba := Rg4.prod_in hx2 hy1
  have bbb := Rg4.prod_in hx2 hy2
  have bbc := Rg4.prod_in hx2 hy3
  have bbd := Rg4.prod_in hx2 hy4
  have bca := Rg4.prod_in hx3 hy1
  have bcb := Rg4.prod_in hx3 hy2
  have bcc := Rg4.prod_in hx3 hy3
  have bcd := Rg4.prod_in hx3 hy4
  have bda := Rg4.prod_in hx4 hy1
  have bdb := Rg4.prod_in hx4 hy2
  have bdc := Rg4.prod_in hx4 hy3
  have bdd := Rg4.prod_in hx4 hy4
  obtain ⟨xa, xb, xc, xd⟩ := x
  obtain ⟨ya, yb, yc, yd⟩ := y
  dsimp only at baa bab bac bad bba bbb bbc bbd bca bcb bcc bcd bda bdb bdc bdd
  have HM := Lib.hid (show (⟨xa, xb, xc, xd⟩ : Rg4).mul ⟨ya, yb, yc, yd⟩ = (⟨xa * ya - xb * yd - xc * yc - xd * yb, xa * yb + xb * ya - xc * yd - xd * yc, xa * yc + xb * yb + xc * ya - xd * yd, xa * yd + xb * yc + xc * yb + xd * ya⟩ : Rg4) from rfl)
  replace HR := Lib.hid (show Rg4.le ⟨xa * ya - xb * yd - xc * yc - xd * yb, xa * yb + xb * ya - xc * yd - xd * yc, xa * yc + xb * yb + xc * ya - xd * yd, xa * yd + xb * yc + xc * yb + xd * ya⟩ 1000000000 from HR.out)
  clear hx1 hx2 hx3 hx4 hy1 hy2 hy3 hy4
  generalize A * B = K at *
  obtain ⟨paa, haa⟩ : ∃ p, p = xa * ya := ⟨_, rfl⟩
  rw [← haa] at baa HM HR
  have eaa : IntKind.i64.wrap (xa * ya) = paa := by rw [← haa]; exact IntWalk.i64_in _ (by omega)
  clear haa
  obtain ⟨pab, hab⟩ : ∃ p, p = xa * yb := ⟨_, rfl⟩
  rw [← hab] at bab HM HR
  have eab : IntKind.i64.wrap (xa * yb) = pab := by rw [← hab]; exact IntWalk.i64_in _ (by omega)
  clear hab
  obtain ⟨pac, hac⟩ : ∃ p, p = xa * yc := ⟨_, rfl⟩
  rw [← hac] at bac HM HR
  have eac : IntKind.i64.wrap (xa * yc) = pac := by rw [← hac]; exact IntWalk.i64_in _ (by omega)
  clear hac
  obtain ⟨pad, had⟩ : ∃ p, p = xa * yd := ⟨_, rfl⟩
  rw [← had] at bad HM HR
  have ead : IntKind.i64.wrap (xa * yd) = pad := by rw [← had]; exact IntWalk.i64_in _ (by omega)
  clear had
  obtain ⟨pba, hba⟩ : ∃ p, p = xb * ya := ⟨_, rfl⟩
  rw [← hba] at bba HM HR
  have eba : IntKind.i64.wrap (xb * ya) = pba := by rw [← hba]; exact IntWalk.i64_in _ (by omega)
  clear hba
  obtain ⟨pbb, hbb⟩ : ∃ p, p = xb * yb := ⟨_, rfl⟩
  rw [← hbb] at bbb HM HR
  have ebb : IntKind.i64.wrap (xb * yb) = pbb := by rw [← hbb]; exact IntWalk.i64_in _ (by omega)
  clear hbb
  obtain ⟨pbc, hbc⟩ : ∃ p, p = xb * yc := ⟨_, rfl⟩
  rw [← hbc] at bbc HM HR
  have ebc : IntKind.i64.wrap (xb * yc) = pbc := by rw [← hbc]; exact IntWalk.i64_in _ (by omega)
  clear hbc
  obtain ⟨pbd, hbd⟩ : ∃ p, p = xb * yd := ⟨_, rfl⟩
  rw [← hbd] at bbd HM HR
  have ebd : IntKind.i64.wrap (xb * yd) = pbd := by rw [← hbd]; exact IntWalk.i64_in _ (by omega)
  clear hbd
  obtain ⟨pca, hca⟩ : ∃ p, p = xc * ya := ⟨_, rfl⟩
  rw [← hca] at bca HM HR
  have eca : IntKind.i64.wrap (xc * ya) = pca := by rw [← hca]; exact IntWalk.i64_in _ (by omega)
  clear hca
  obtain ⟨pcb, hcb⟩ : ∃ p, p = xc * yb := ⟨_, rfl⟩
  rw [← hcb] at bcb HM HR
  have ecb : IntKind.i64.wrap (xc * yb) = pcb := by rw [← hcb]; exact IntWalk.i64_in _ (by omega)
  clear hcb
  obtain ⟨pcc, hcc⟩ : ∃ p, p = xc * yc := ⟨_, rfl⟩
  rw [← hcc] at bcc HM HR
  have ecc : IntKind.i64.wrap (xc * yc) = pcc := by rw [← hcc]; exact IntWalk.i64_in _ (by omega)
  clear hcc
  obtain ⟨pcd, hcd⟩ : ∃ p, p = xc * yd := ⟨_, rfl⟩
  rw [← hcd] at bcd HM HR
  have ecd : IntKind.i64.wrap (xc * yd) = pcd := by rw [← hcd]; exact IntWalk.i64_in _ (by omega)
  clear hcd
  obtain ⟨pda, hda⟩ : ∃ p, p = xd * ya := ⟨_, rfl⟩
  rw [← hda] at bda HM HR
  have eda : IntKind.i64.wrap (xd * ya) = pda := by rw [← hda]; exact IntWalk.i64_in _ (by omega)
  clear hda
  obtain ⟨pdb, hdb⟩ : ∃ p, p = xd * yb := ⟨_, rfl⟩
  rw [← hdb] at bdb HM HR
  have edb : IntKind.i64.wrap (xd * yb) = pdb := by rw [← hdb]; exact IntWalk.i64_in _ (by omega)
  clear hdb
  obtain ⟨pdc, hdc⟩ : ∃ p, p = xd * yc := ⟨_, rfl⟩
  rw [← hdc] at bdc HM HR
  have edc : IntKind.i64.wrap (xd * yc) = pdc := by rw [← hdc]; exact IntWalk.i64_in _ (by omega)
  clear hdc
  obtain ⟨pdd, hdd⟩ : ∃ p, p = xd * yd := ⟨_, rfl⟩
  rw [← hdd] at bdd HM HR
  have edd : IntKind.i64.wrap (xd * yd) = pdd := by rw [← hdd]; exact IntWalk.i64_in _ (by omega)
  clear hdd
  have S1 := Lib.hid (((((Sb.nil w).push [.int .i64 xa, .int .i64 xb, .int .i64 xc, .int .i64 xd] 58 rfl).push [.int .i64 ya, .int .i64 yb, .int .i64 yc, .int .i64 yd] 58 (g := w.heap.size + 1) (by simp)).push [.int .i64 0, .int .i64 0, .int .i64 0, .int .i64 0] 58 (g := w.heap.size + 1 + 1) (by simp)))
  have C1 := Lib.hid (fun W (S : Sb w.heap.size w W [(w.heap.size + 1 + 1, [.int .i64 0, .int .i64 0, .int .i64 0, .int .i64 0]), (w.heap.size + 1, [.int .i64 ya, .int .i64 yb, .int .i64 yc, .int .i64 yd]), (w.heap.size, [.int .i64 xa, .int .i64 xb, .int .i64 xc, .int .i64 xd])]) => S.alloc (.cells #[.int .i64 xa, .int .i64 xb, .int .i64 xc, .int .i64 xd, .int .i64 ya, .int .i64 yb, .int .i64 yc, .int .i64 yd] 58))
  have O1 := Lib.hid (fun (W : World) (g : Nat) (hg : W.heap.size = g) => (show OwnE (W.alloc (.cells #[.int .i64 xa, .int .i64 xb, .int .i64 xc, .int .i64 xd, .int .i64 ya, .int .i64 yb, .int .i64 yc, .int .i64 yd] 58)) g 58 (.slice (some ⟨g, 0, none⟩) 2 2) Rg4.cs 4 [⟨xa, xb, xc, xd⟩, ⟨ya, yb, yc, yd⟩] from own_new W 58 hg (Nat.le_refl _) rfl (by omega)))
  go_enter Try.func45, Try.ntmps45
  go_wp2_with fail
  have S2 := Lib.hid (C1.out _ S1.out)
  have O2 := Lib.hid (O1.out (((w.alloc (.cells #[.int .i64 xa, .int .i64 xb, .int .i64 xc, .int .i64 xd] 58)).alloc (.cells #[.int .i64 ya, .int .i64 yb, .int .i64 yc, .int .i64 yd] 58)).alloc (.cells #[.int .i64 0, .int .i64 0, .int .i64 0, .int .i64 0] 58)) (w.heap.size + 1 + 1 + 1) (by simp))
  have z2 : w.heap.size + 1 + 1 + 1 ≤ ((((w.alloc (.cells #[.int .i64 xa, .int .i64 xb, .int .i64 xc, .int .i64 xd] 58)).alloc (.cells #[.int .i64 ya, .int .i64 yb, .int .i64 yc, .int .i64 yd] 58)).alloc (.cells #[.int .i64 0, .int .i64 0, .int .i64 0, .int .i64 0] 58)).alloc (.cells #[.int .i64 xa, .int .i64 xb, .int .i64 xc, .int .i64 xd, .int .i64 ya, .int .i64 yb, .int .i64 yc, .int .i64 yd] 58)).heap.size := by simp
  clear C1 O1 S1
  generalize ((((w.alloc (.cells #[.int .i64 xa, .int .i64 xb, .int .i64 xc, .int .i64 xd] 58)).alloc (.cells #[.int .i64 ya, .int .i64 yb, .int .i64 yc, .int .i64 yd] 58)).alloc (.cells #[.int .i64 0, .int .i64 0, .int .i64 0, .int .i64 0] 58)).alloc (.cells #[.int .i64 xa, .int .i64 xb, .int .i64 xc, .int .i64 xd, .int .i64 ya, .int .i64 yb, .int .i64 yc, .int .i64 yd] 58)) = w1 at *
  refine (impl_ringIf_ok (w.heap.size + 1 + 1 + 1) _ [⟨xa, xb, xc, xd⟩, ⟨ya, yb, yc, yd⟩] ⟨paa - pbd - pcc - pdb, pab + pba - pcd - pdc, pac + pbb + pca - pdd, pad + pbc + pcb + pda⟩ w1 O2.out z2 (by simp) HX.out HR.out).mono ?_; rintro e w2 ⟨rfl, hb2⟩
  replace S2 := Lib.hid (S2.out.callB hb2 (by omega) (fun p hp => by
    simp only [List.mem_cons, List.not_mem_nil, or_false] at hp
    rcases hp with rfl | rfl | rfl <;> (dsimp only; omega)))
  have S9 := Lib.hid ((((S2.out.set0 0 (.int .i64 (paa - pbd - pcc - pdb))).set0 1 (.int .i64 (pab + pba - pcd - pdc))).set0 2 (.int .i64 (pac + pbb + pca - pdd))).set0 3 (.int .i64 (pad + pbc + pcb + pda)))
  obtain ⟨⟨c0, c1, c2, c3⟩, f0, f1, f2, f3⟩ := S2.out.head.c4
  clear hb2 S2 O2
  go_wp2_with fail
  clear c0 c1 c2 c3 f0 f1 f2 f3
  generalize (((w2.setCell ⟨w.heap.size + 1 + 1, 0, none⟩ (.int .i64 (paa - pbd - pcc - pdb))).setCell ⟨w.heap.size + 1 + 1, 1, none⟩ (.int .i64 (pab + pba - pcd - pdc))).setCell ⟨w.heap.size + 1 + 1, 2, none⟩ (.int .i64 (pac + pbb + pca - pdd))).setCell ⟨w.heap.size + 1 + 1, 3, none⟩ (.int .i64 (pad + pbc + pcb + pda)) = w9 at *
  obtain ⟨⟨c0, c1, c2, c3⟩, _⟩ := S9.out.head.c4
  refine bodyPost_ret (v := .tuple #[.agg #[.int .i64 (paa - pbd - pcc - pdb), .int .i64 (pab + pba - pcd - pdc), .int .i64 (pac + pbb + pca - pdd), .int .i64 (pad + pbc + pcb + pda)], .bool true]) (by simp [results, Try.results45, go_sem, c0, c1, c2, c3]) rfl ⟨?_, S9.out.bel⟩
  rw [HM.out]
set_option maxHeartbeats 4000000 in
theorem impl_DivRootTwo_ok (x : Rg4) (w : World) (hx : x.le 1000000000) (he : x.evn = true) :
    Calls Try.prog 60 #[x.v] w fun e w' => e = .returned (.tuple #[(x.hf).v, .bool true]) ∧ Below w.heap.size w w' := by
  have HX := Lib.hid (all1 hx)
  have HV := Lib.hid hx
  have HE := Lib.hid he
  have HR := Lib.hid (Rg4.hf_le hx)
  have hev := he
  simp only [Rg4.evn, Bool.and_eq_true, decide_eq_true_eq] at hev
  obtain ⟨hx1, hx2, hx3, hx4⟩ := hx
  clear he
  obtain ⟨xa, xb, xc, xd⟩ := x
  dsimp only at hx1 hx2 hx3 hx4 hev
  have HM := Lib.hid (show (⟨xa, xb, xc, xd⟩ : Rg4).hf = (⟨(xb - xd) / 2, (xa + xc) / 2, (xb + xd) / 2, (xc - xa) / 2⟩ : Rg4) from rfl)
  replace HR := Lib.hid (show Rg4.le ⟨(xb - xd) / 2, (xa + xc) / 2, (xb + xd) / 2, (xc - xa) / 2⟩ 1000000000 from HR.out)
  have e0 : IntKind.i64.wrap (xb - xd) = xb - xd := IntWalk.i64_in _ (by omega)
  have q0 : Int.tdiv (xb - xd) 2 = (xb - xd) / 2 := by rw [Int.tdiv_eq_ediv_of_dvd (by omega)]
  have r0 : IntKind.i64.wrap ((xb - xd) / 2) = (xb - xd) / 2 := IntWalk.i64_in _ (by omega)
  have e1 : IntKind.i64.wrap (xa + xc) = xa + xc := IntWalk.i64_in _ (by omega)
  have q1 : Int.tdiv (xa + xc) 2 = (xa + xc) / 2 := by rw [Int.tdiv_eq_ediv_of_dvd (by omega)]
  have r1 : IntKind.i64.wrap ((xa + xc) / 2) = (xa + xc) / 2 := IntWalk.i64_in _ (by omega)
  have e2 : IntKind.i64.wrap (xb + xd) = xb + xd := IntWalk.i64_in _ (by omega)
  have q2 : Int.tdiv (xb + xd) 2 = (xb + xd) / 2 := by rw [Int.tdiv_eq_ediv_of_dvd (by omega)]
  have r2 : IntKind.i64.wrap ((xb + xd) / 2) = (xb + xd) / 2 := IntWalk.i64_in _ (by omega)
  have e3 : IntKind.i64.wrap (xc - xa) = xc - xa := IntWalk.i64_in _ (by omega)
  have q3 : Int.tdiv (xc - xa) 2 = (xc - xa) / 2 := by rw [Int.tdiv_eq_ediv_of_dvd (by omega)]
  have r3 : IntKind.i64.wrap ((xc - xa) / 2) = (xc - xa) / 2 := IntWalk.i64_in _ (by omega)
  clear hev
  have S1 := Lib.hid ((((Sb.nil w).push [.int .i64 xa, .int .i64 xb, .int .i64 xc, .int .i64 xd] 58 rfl).push [.int .i64 0, .int .i64 0, .int .i64 0, .int .i64 0] 58 (g := w.heap.size + 1) (by simp)))
  have C1 := Lib.hid (fun W (S : Sb w.heap.size w W [(w.heap.size + 1, [.int .i64 0, .int .i64 0, .int .i64 0, .int .i64 0]), (w.heap.size, [.int .i64 xa, .int .i64 xb, .int .i64 xc, .int .i64 xd])]) => S.alloc (.cells #[.int .i64 xa, .int .i64 xb, .int .i64 xc, .int .i64 xd] 58))
  have O1 := Lib.hid (fun (W : World) (g : Nat) (hg : W.heap.size = g) => (show OwnE (W.alloc (.cells #[.int .i64 xa, .int .i64 xb, .int .i64 xc, .int .i64 xd] 58)) g 58 (.slice (some ⟨g, 0, none⟩) 1 1) Rg4.cs 4 [⟨xa, xb, xc, xd⟩] from own_new W 58 hg (Nat.le_refl _) rfl (by omega)))
  go_enter Try.func60, Try.ntmps60
  go_wp2_with fail
  generalize ((w.alloc (.cells #[.int .i64 xa, .int .i64 xb, .int .i64 xc, .int .i64 xd] 58)).alloc (.cells #[.int .i64 0, .int .i64 0, .int .i64 0, .int .i64 0] 58)) = wx at *
  refine (impl_IsValidRing_ok ⟨xa, xb, xc, xd⟩ _ HV.out).mono ?_; rintro e wv ⟨rfl, hbv⟩
  replace S1 := Lib.hid (S1.out.call hbv)
  obtain ⟨⟨c0, c1, c2, c3⟩, _⟩ := (S1.out.at 1 rfl).c4
  clear hbv
  go_wp2_with fail
  refine (impl_isEven_any ⟨xa, xb, xc, xd⟩ _ HV.out).mono ?_; rintro e wm ⟨rfl, hbm⟩
  rw [HE.out]
  replace S1 := Lib.hid (S1.out.call hbm)
  clear hbm c0 c1 c2 c3
  obtain ⟨⟨c0, c1, c2, c3⟩, _⟩ := (S1.out.at 1 rfl).c4
  go_wp2_with fail
  clear c0 c1 c2 c3
  have S2 := Lib.hid (C1.out _ S1.out)
  have O2 := Lib.hid (O1.out wm (wm.heap.size) (by simp))
  have z2 : wm.heap.size ≤ (wm.alloc (.cells #[.int .i64 xa, .int .i64 xb, .int .i64 xc, .int .i64 xd] 58)).heap.size := by simp
  have z3 : w.heap.size + 1 < wm.heap.size := S1.out.lt
  clear C1 O1 S1
  generalize (wm.alloc (.cells #[.int .i64 xa, .int .i64 xb, .int .i64 xc, .int .i64 xd] 58)) = w1 at *
  refine (impl_ringIf_ok (wm.heap.size) _ [⟨xa, xb, xc, xd⟩] ⟨(xb - xd) / 2, (xa + xc) / 2, (xb + xd) / 2, (xc - xa) / 2⟩ w1 O2.out z2 (by simp) HX.out HR.out).mono ?_; rintro e w2 ⟨rfl, hb2⟩
  replace S2 := Lib.hid (S2.out.callB hb2 (by omega) (fun p hp => by
    simp only [List.mem_cons, List.not_mem_nil, or_false] at hp
    rcases hp with rfl | rfl <;> (dsimp only; omega)))
  have S9 := Lib.hid ((((S2.out.set0 0 (.int .i64 ((xb - xd) / 2))).set0 1 (.int .i64 ((xa + xc) / 2))).set0 2 (.int .i64 ((xb + xd) / 2))).set0 3 (.int .i64 ((xc - xa) / 2)))
  obtain ⟨⟨c0, c1, c2, c3⟩, f0, f1, f2, f3⟩ := S2.out.head.c4
  clear hb2 S2 O2
  go_wp2_with fail
  clear c0 c1 c2 c3 f0 f1 f2 f3
  generalize (((w2.setCell ⟨w.heap.size + 1, 0, none⟩ (.int .i64 ((xb - xd) / 2))).setCell ⟨w.heap.size + 1, 1, none⟩ (.int .i64 ((xa + xc) / 2))).setCell ⟨w.heap.size + 1, 2, none⟩ (.int .i64 ((xb + xd) / 2))).setCell ⟨w.heap.size + 1, 3, none⟩ (.int .i64 ((xc - xa) / 2)) = w9 at *
  obtain ⟨⟨c0, c1, c2, c3⟩, _⟩ := S9.out.head.c4
  refine bodyPost_ret (v := .tuple #[.agg #[.int .i64 ((xb - xd) / 2), .int .i64 ((xa + xc) / 2), .int .i64 ((xb + xd) / 2), .int .i64 ((xc - xa) / 2)], .bool true]) (by simp [results, Try.results60, go_sem, c0, c1, c2, c3]) rfl ⟨?_, S9.out.bel⟩
  rw [HM.out]
end Go.Proofs.Yteimcfbliigjmaa
