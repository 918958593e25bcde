/- Two tableaux are equal: in the program and in the reference. -/
import Derived.Test.YtfcmakabejnicaaEqPauli
import Derived.Test.YtfcmakabejnicaaOwnG
import Derived.Test.YtfcmakabejnicaaOrd0
namespace Go.Proofs.Ytfcmakabejnicaa
set_option linter.unusedSimpArgs false
set_option linter.unusedVariables false
set_option linter.unnecessarySimpa false
set_option maxRecDepth 200000
open Go.ChangeShapes Go.WideShapes Go.ChangeAt Go.RowKit

theorem same_no1 {xs ys zs us : List E3} {m k : Nat} (hx : xs.length = m) (hy : ys.length = m) (hk : k < m) (he : ¬ xs.getD k ⟨0, 0, 0⟩ = ys.getD k ⟨0, 0, 0⟩) : false = decide (xs = ys ∧ zs = us) := by
  symm; rw [decide_eq_false_iff_not]; rintro ⟨rfl, _⟩; exact he rfl
theorem same_no2 {xs ys zs us : List E3} {m k : Nat} (hx : zs.length = m) (hy : us.length = m) (hk : k < m) (he : ¬ zs.getD k ⟨0, 0, 0⟩ = us.getD k ⟨0, 0, 0⟩) : false = decide (xs = ys ∧ zs = us) := by
  symm; rw [decide_eq_false_iff_not]; rintro ⟨_, rfl⟩; exact he rfl
def SameTo (xs ys : List E3) (k : Nat) : Prop := ∀ j, j < k → xs.getD j ⟨0, 0, 0⟩ = ys.getD j ⟨0, 0, 0⟩
theorem SameTo.next {xs ys : List E3} {k : Nat} (h : SameTo xs ys k) (h2 : xs.getD k ⟨0, 0, 0⟩ = ys.getD k ⟨0, 0, 0⟩) : SameTo xs ys (k + 1) := by
  intro j hj
  by_cases e : j = k
  · subst e; exact h2
  · exact h j (by omega)
theorem SameTo.all {xs ys : List E3} {m : Nat} (h : SameTo xs ys m) (hx : xs.length = m) (hy : ys.length = m) : xs = ys := by
  apply List.ext_getElem (by omega)
  intro i h1 h2
  have := h i (by omega)
  simpa [List.getD, h1, h2] using this
theorem E3.eq_of {x y : E3} (h : (x.a == y.a) = true) (h1 : (x.b == y.b) = true) (h2 : (x.c == y.c) = true) : x = y := by
  cases x; cases y; simp only [E3.mk.injEq]; exact ⟨LawfulBEq.eq_of_beq h, LawfulBEq.eq_of_beq h1, LawfulBEq.eq_of_beq h2⟩
theorem e3_at {w : World} {v : Value} {L : List E3} {m : Nat} (h : RdE w v E3.cs 3 L) (hm : L.length = m) : ∃ A c, v = .slice A m c ∧ Hid (∀ k, k < m → ∃ b off, A = some ⟨b, off, none⟩ ∧ b < w.heap.size ∧ w.cell? ⟨b, off + k * 3, none⟩ = some (.int .i64 (L.getD k ⟨0, 0, 0⟩).a) ∧ w.cell? ⟨b, off + k * 3 + 1, none⟩ = some (.int .i64 (L.getD k ⟨0, 0, 0⟩).b) ∧ w.cell? ⟨b, off + k * 3 + 2, none⟩ = some (.int .i64 (L.getD k ⟨0, 0, 0⟩).c)) := by
  subst hm
  rcases h.cases0 E3.len with ⟨he, A, c, rfl⟩ | ⟨hpos, b, off, cap, rfl, hb1, hcap, hcm, hcs⟩
  · exact ⟨A, c, by rw [he]; rfl, fun k hk => absurd hk (by rw [he]; simp)⟩
  · refine ⟨_, _, rfl, fun k hk => ⟨b, off, rfl, hb1, ?_⟩⟩
    have e : L.getD k ⟨0, 0, 0⟩ = L[k] := by simp [List.getD, hk]
    rw [e]
    exact ⟨hcs k hk 0 _ (by omega) rfl, hcs k hk 1 _ (by omega) rfl, hcs k hk 2 _ (by omega) rfl⟩
set_option maxHeartbeats 8000000 in
theorem spec_l8Same_any (m : Nat) (xs zs ys us : List E3) (v0 v1 u0 u1 : Value) (w : World) (hm : m ≤ 5) (lx : xs.length = m) (lz : zs.length = m) (ly : ys.length = m) (lu : us.length = m) (h0 : RdE w v0 E3.cs 3 xs) (h1 : RdE w v1 E3.cs 3 zs) (k0 : RdE w u0 E3.cs 3 ys) (k1 : RdE w u1 E3.cs 3 us) :
    Calls Try.prog 26 #[.agg #[.int .i64 (m : Int), v0, v1], .agg #[.int .i64 (m : Int), u0, u1]] w fun e w' => e = .returned (.bool (decide (xs = ys ∧ zs = us))) ∧ Below w.heap.size w w' := by
  obtain ⟨A, cA, rfl, HA⟩ := e3_at h0 lx
  obtain ⟨B, cB, rfl, HB⟩ := e3_at h1 lz
  obtain ⟨C, cC, rfl, HC⟩ := e3_at k0 ly
  obtain ⟨D, cD, rfl, HD⟩ := e3_at k1 lu
  have LX := Lib.hid lx; have LZ := Lib.hid lz; have LY := Lib.hid ly; have LU := Lib.hid lu
  clear h0 h1 k0 k1 lx lz ly lu
  go_enter Try.func26, Try.ntmps26
  go_wp2_with fail
  obtain ⟨W0, hW0⟩ : ∃ W0, W0 = ((w.alloc (.cells #[.int .i64 (m : Int), .slice A m cA, .slice B m cB] 30)).alloc (.cells #[.int .i64 (m : Int), .slice C m cC, .slice D m cD] 30)) := ⟨_, rfl⟩
  have BW := Lib.hid (show Below w.heap.size w W0 from by rw [hW0]; exact (by repeat (first | exact Below.refl _ _ | assumption | refine Below.drew ?_ | refine below_drewN ?_ _ | refine Below.alloc ?_ (by first | omega | (simp <;> omega)) _ | refine Below.setCell ?_ (by first | omega | (simp <;> omega)) _ | refine Below.trans ?_ (Below.mono (by assumption) (by first | omega | (simp <;> omega))))))
  have T0 := Lib.hid (show W0.cell? ⟨w.heap.size, 0, none⟩ = some (.int .i64 (m : Int)) from by rw [hW0]; exact (by repeat (first | (refine Eq.trans (World.cell?_alloc_at _ _ _ _ ?hh) ?_; (case hh => (simp; done)); rfl) | refine cell_alloc_keep _ ?_)))
  have T1 := Lib.hid (show W0.cell? ⟨w.heap.size, 1, none⟩ = some (.slice A m cA) from by rw [hW0]; exact (by repeat (first | (refine Eq.trans (World.cell?_alloc_at _ _ _ _ ?hh) ?_; (case hh => (simp; done)); rfl) | refine cell_alloc_keep _ ?_)))
  have T2 := Lib.hid (show W0.cell? ⟨w.heap.size, 2, none⟩ = some (.slice B m cB) from by rw [hW0]; exact (by repeat (first | (refine Eq.trans (World.cell?_alloc_at _ _ _ _ ?hh) ?_; (case hh => (simp; done)); rfl) | refine cell_alloc_keep _ ?_)))
  have S0 := Lib.hid (show W0.cell? ⟨w.heap.size + 1, 0, none⟩ = some (.int .i64 (m : Int)) from by rw [hW0]; exact (by repeat (first | (refine Eq.trans (World.cell?_alloc_at _ _ _ _ ?hh) ?_; (case hh => (simp; done)); rfl) | refine cell_alloc_keep _ ?_)))
  have S1 := Lib.hid (show W0.cell? ⟨w.heap.size + 1, 1, none⟩ = some (.slice C m cC) from by rw [hW0]; exact (by repeat (first | (refine Eq.trans (World.cell?_alloc_at _ _ _ _ ?hh) ?_; (case hh => (simp; done)); rfl) | refine cell_alloc_keep _ ?_)))
  have S2 := Lib.hid (show W0.cell? ⟨w.heap.size + 1, 2, none⟩ = some (.slice D m cD) from by rw [hW0]; exact (by repeat (first | (refine Eq.trans (World.cell?_alloc_at _ _ _ _ ?hh) ?_; (case hh => (simp; done)); rfl) | refine cell_alloc_keep _ ?_)))
  rw [← hW0]
  clear hW0
  go_loopw [5] (fun i wr => ∃ k : Nat, k ≤ m ∧ i = .int .i64 k ∧ Hid (SameTo xs ys k) ∧ Hid (SameTo zs us k) ∧ Hid (Below W0.heap.size W0 wr)) (fun i _ => m - (intOf i).toNat)
  case atStart => exact ⟨0, Nat.zero_le _, rfl, (show SameTo _ _ _ from fun q hq => absurd hq (Nat.not_lt_zero _)), (show SameTo _ _ _ from fun q hq => absurd hq (Nat.not_lt_zero _)), (show Below _ _ _ from Below.refl _ _)⟩
  case round =>
    obtain ⟨k, hk, rfl, hsx, hsz, hbel⟩ := hrel
    have t0 := below_cell hbel.out rfl T0.out
    have t1 := below_cell hbel.out rfl T1.out
    have t2 := below_cell hbel.out rfl T2.out
    have s0 := below_cell hbel.out rfl S0.out
    have s1 := below_cell hbel.out rfl S1.out
    have s2 := below_cell hbel.out rfl S2.out
    have bw := Lib.hid (show Below w.heap.size w wr from Below.trans BW.out (hbel.out.mono BW.out.size))
    by_cases hlt : k < m
    · have i1 : (k : Int) < (m : Int) := by omega
      have i2 : (0 : Int) ≤ (k : Int) := by omega
      obtain ⟨ga, offa, rfl, hga, a0, a1, a2⟩ := HA.out k hlt
      obtain ⟨gb, offb, rfl, hgb, b0, b1, b2⟩ := HB.out k hlt
      obtain ⟨gc, offc, rfl, hgc, c0, c1, c2⟩ := HC.out k hlt
      obtain ⟨gd, offd, rfl, hgd, d0, d1, d2⟩ := HD.out k hlt
      replace a0 := (bw.out.cell hga).trans a0; replace a1 := (bw.out.cell hga).trans a1; replace a2 := (bw.out.cell hga).trans a2
      replace b0 := (bw.out.cell hgb).trans b0; replace b1 := (bw.out.cell hgb).trans b1; replace b2 := (bw.out.cell hgb).trans b2
      replace c0 := (bw.out.cell hgc).trans c0; replace c1 := (bw.out.cell hgc).trans c1; replace c2 := (bw.out.cell hgc).trans c2
      replace d0 := (bw.out.cell hgd).trans d0; replace d1 := (bw.out.cell hgd).trans d1; replace d2 := (bw.out.cell hgd).trans d2
      have NX := Lib.hid (fun he => same_no1 (zs := zs) (us := us) (k := k) LX.out LY.out hlt he)
      have NZ := Lib.hid (fun he => same_no2 (xs := xs) (ys := ys) (k := k) LZ.out LU.out hlt he)
      have YX := Lib.hid (fun he => SameTo.next (k := k) hsx.out he)
      have YZ := Lib.hid (fun he => SameTo.next (k := k) hsz.out he)
      obtain ⟨x, hx⟩ : ∃ x, x = xs.getD k ⟨0, 0, 0⟩ := ⟨_, rfl⟩
      obtain ⟨z, hz⟩ : ∃ x, x = zs.getD k ⟨0, 0, 0⟩ := ⟨_, rfl⟩
      obtain ⟨y, hy⟩ : ∃ x, x = ys.getD k ⟨0, 0, 0⟩ := ⟨_, rfl⟩
      obtain ⟨u, hu⟩ : ∃ x, x = us.getD k ⟨0, 0, 0⟩ := ⟨_, rfl⟩
      rw [← hx] at a0 a1 a2 NX YX; rw [← hz] at b0 b1 b2 NZ YZ; rw [← hy] at c0 c1 c2 NX YX; rw [← hu] at d0 d1 d2 NZ YZ
      clear hx hz hy hu HA HB HC HD hsx hsz
      rcases eqcase_Pauli x y with q0 | ⟨q0, q1⟩ | ⟨q0, q1, q2⟩ | ⟨q0, q1, q2⟩
      · go_wp2_with fail
        go_quiet (fail)
        go_wp2_with fail
        go_ret
        exact ⟨ret_bool (NX.out (by intro e; subst e; simp at q0)), Below.trans BW.out ((show Below W0.heap.size W0 _ from Below.trans hbel.out (show Below W0.heap.size wr _ from (by repeat (first | exact Below.refl _ _ | assumption | refine Below.drew ?_ | refine below_drewN ?_ _ | refine Below.alloc ?_ (by first | omega | (simp <;> omega)) _ | refine Below.setCell ?_ (by first | omega | (simp <;> omega)) _ | refine Below.trans ?_ (Below.mono (by assumption) (by first | omega | (simp <;> omega))))))).mono BW.out.size)⟩
      · go_wp2_with fail
        go_quiet (fail)
        go_wp2_with fail
        go_ret
        exact ⟨ret_bool (NX.out (by intro e; subst e; simp at q1)), Below.trans BW.out ((show Below W0.heap.size W0 _ from Below.trans hbel.out (show Below W0.heap.size wr _ from (by repeat (first | exact Below.refl _ _ | assumption | refine Below.drew ?_ | refine below_drewN ?_ _ | refine Below.alloc ?_ (by first | omega | (simp <;> omega)) _ | refine Below.setCell ?_ (by first | omega | (simp <;> omega)) _ | refine Below.trans ?_ (Below.mono (by assumption) (by first | omega | (simp <;> omega))))))).mono BW.out.size)⟩
      · go_wp2_with fail
        go_quiet (fail)
        go_wp2_with fail
        go_ret
        exact ⟨ret_bool (NX.out (by intro e; subst e; simp at q2)), Below.trans BW.out ((show Below W0.heap.size W0 _ from Below.trans hbel.out (show Below W0.heap.size wr _ from (by repeat (first | exact Below.refl _ _ | assumption | refine Below.drew ?_ | refine below_drewN ?_ _ | refine Below.alloc ?_ (by first | omega | (simp <;> omega)) _ | refine Below.setCell ?_ (by first | omega | (simp <;> omega)) _ | refine Below.trans ?_ (Below.mono (by assumption) (by first | omega | (simp <;> omega))))))).mono BW.out.size)⟩
      · have EX := Lib.hid (YX.out (E3.eq_of q0 q1 q2))
        rcases eqcase_Pauli z u with p0 | ⟨p0, p1⟩ | ⟨p0, p1, p2⟩ | ⟨p0, p1, p2⟩
        · go_wp2_with fail
          go_quiet (fail)
          go_wp2_with fail
          go_ret
          exact ⟨ret_bool (NZ.out (by intro e; subst e; simp at p0)), Below.trans BW.out ((show Below W0.heap.size W0 _ from Below.trans hbel.out (show Below W0.heap.size wr _ from (by repeat (first | exact Below.refl _ _ | assumption | refine Below.drew ?_ | refine below_drewN ?_ _ | refine Below.alloc ?_ (by first | omega | (simp <;> omega)) _ | refine Below.setCell ?_ (by first | omega | (simp <;> omega)) _ | refine Below.trans ?_ (Below.mono (by assumption) (by first | omega | (simp <;> omega))))))).mono BW.out.size)⟩
        · go_wp2_with fail
          go_quiet (fail)
          go_wp2_with fail
          go_ret
          exact ⟨ret_bool (NZ.out (by intro e; subst e; simp at p1)), Below.trans BW.out ((show Below W0.heap.size W0 _ from Below.trans hbel.out (show Below W0.heap.size wr _ from (by repeat (first | exact Below.refl _ _ | assumption | refine Below.drew ?_ | refine below_drewN ?_ _ | refine Below.alloc ?_ (by first | omega | (simp <;> omega)) _ | refine Below.setCell ?_ (by first | omega | (simp <;> omega)) _ | refine Below.trans ?_ (Below.mono (by assumption) (by first | omega | (simp <;> omega))))))).mono BW.out.size)⟩
        · go_wp2_with fail
          go_quiet (fail)
          go_wp2_with fail
          go_ret
          exact ⟨ret_bool (NZ.out (by intro e; subst e; simp at p2)), Below.trans BW.out ((show Below W0.heap.size W0 _ from Below.trans hbel.out (show Below W0.heap.size wr _ from (by repeat (first | exact Below.refl _ _ | assumption | refine Below.drew ?_ | refine below_drewN ?_ _ | refine Below.alloc ?_ (by first | omega | (simp <;> omega)) _ | refine Below.setCell ?_ (by first | omega | (simp <;> omega)) _ | refine Below.trans ?_ (Below.mono (by assumption) (by first | omega | (simp <;> omega))))))).mono BW.out.size)⟩
        · have EZ := Lib.hid (YZ.out (E3.eq_of p0 p1 p2))
          go_wp2_with fail
          go_quiet (fail)
          go_wp2_with fail
          go_roundw
          case rel => exact ⟨k + 1, by omega, by go_num, EX.out, EZ.out, (show Below _ _ _ from Below.trans hbel.out (show Below W0.heap.size wr _ from (by repeat (first | exact Below.refl _ _ | assumption | refine Below.drew ?_ | refine below_drewN ?_ _ | refine Below.alloc ?_ (by first | omega | (simp <;> omega)) _ | refine Below.setCell ?_ (by first | omega | (simp <;> omega)) _ | refine Below.trans ?_ (Below.mono (by assumption) (by first | omega | (simp <;> omega)))))))⟩
          case measure => simp [intOf]; omega
    · have e : k = m := by omega
      have R := Lib.hid (show true = decide (xs = ys ∧ zs = us) from by
        subst e
        exact (decide_eq_true ⟨hsx.out.all LX.out LY.out, hsz.out.all LZ.out LU.out⟩).symm)
      clear e
      go_wp2_with fail
      (try go_quiet (fail))
      (try go_wp2_with fail)
      go_ret
      exact ⟨ret_bool R.out, bw.out⟩
set_option maxHeartbeats 4000000 in
theorem impl_equalTableaux_any (n : Int) (xs zs ys us : List E3) (v0 v1 u0 u1 : Value) (w : World) (h0 : RdE w v0 E3.cs 3 xs) (h1 : RdE w v1 E3.cs 3 zs) (k0 : RdE w u0 E3.cs 3 ys) (k1 : RdE w u1 E3.cs 3 us) :
    Calls Try.prog 32 #[.agg #[.int .i64 n, v0, v1], .agg #[.int .i64 n, u0, u1]] w fun e w' => e = .returned (.bool (decide (xs = ys ∧ zs = us))) ∧ Below w.heap.size w w' := by
  have H0 := Lib.hid h0; have H1 := Lib.hid h1; have K0 := Lib.hid k0; have K1 := Lib.hid k1
  obtain ⟨A, cA, rfl, _⟩ := h0.form
  obtain ⟨B, cB, rfl, _⟩ := h1.form
  obtain ⟨C, cC, rfl, _⟩ := k0.form
  obtain ⟨D, cD, rfl, _⟩ := k1.form
  clear h0 h1 k0 k1
  by_cases hx : xs = ys
  · have HX := Lib.hid (show decide (xs = ys) = true from decide_eq_true hx)
    have HR := Lib.hid (show decide (zs = us) = decide (xs = ys ∧ zs = us) from by simp [hx])
    clear hx
    go_enter Try.func32, Try.ntmps32
    go_wp2_with fail
    refine (slices_Equal_Pauli _ _ xs ys _ (Rd.below H0.out (show Below w.heap.size w _ from (by repeat (first | exact Below.refl _ _ | assumption | refine Below.drew ?_ | refine below_drewN ?_ _ | refine Below.alloc ?_ (by first | omega | (simp <;> omega)) _ | refine Below.setCell ?_ (by first | omega | (simp <;> omega)) _ | refine Below.trans ?_ (Below.mono (by assumption) (by first | omega | (simp <;> omega)))))) rfl) (Rd.below K0.out (show Below w.heap.size w _ from (by repeat (first | exact Below.refl _ _ | assumption | refine Below.drew ?_ | refine below_drewN ?_ _ | refine Below.alloc ?_ (by first | omega | (simp <;> omega)) _ | refine Below.setCell ?_ (by first | omega | (simp <;> omega)) _ | refine Below.trans ?_ (Below.mono (by assumption) (by first | omega | (simp <;> omega)))))) rfl)).mono ?_; rintro e w1 ⟨rfl, hb1⟩; rw [HX.out]
    obtain ⟨hc_hb1, hf_hb1⟩ := bcell hb1; have hz_hb1 := hb1.size; (try simp at hz_hb1); have hs0_hb1 : w.heap.size < w1.heap.size := (by omega); have hs1_hb1 : w.heap.size + 1 < w1.heap.size := (by omega)
    go_wp2_with fail
    refine (slices_Equal_Pauli _ _ zs us _ (Rd.below H1.out (show Below w.heap.size w _ from (by repeat (first | exact Below.refl _ _ | assumption | refine Below.drew ?_ | refine below_drewN ?_ _ | refine Below.alloc ?_ (by first | omega | (simp <;> omega)) _ | refine Below.setCell ?_ (by first | omega | (simp <;> omega)) _ | refine Below.trans ?_ (Below.mono (by assumption) (by first | omega | (simp <;> omega)))))) rfl) (Rd.below K1.out (show Below w.heap.size w _ from (by repeat (first | exact Below.refl _ _ | assumption | refine Below.drew ?_ | refine below_drewN ?_ _ | refine Below.alloc ?_ (by first | omega | (simp <;> omega)) _ | refine Below.setCell ?_ (by first | omega | (simp <;> omega)) _ | refine Below.trans ?_ (Below.mono (by assumption) (by first | omega | (simp <;> omega)))))) rfl)).mono ?_; rintro e w2 ⟨rfl, hb2⟩
    obtain ⟨hc_hb2, hf_hb2⟩ := bcell hb2; have hz_hb2 := hb2.size; (try simp at hz_hb2); have hs0_hb2 : w.heap.size < w2.heap.size := (by omega); have hs1_hb2 : w.heap.size + 1 < w2.heap.size := (by omega)
    go_wp2_with fail
    go_ret
    exact ⟨ret_bool HR.out, (by repeat (first | exact Below.refl _ _ | assumption | refine Below.drew ?_ | refine below_drewN ?_ _ | refine Below.alloc ?_ (by first | omega | (simp <;> omega)) _ | refine Below.setCell ?_ (by first | omega | (simp <;> omega)) _ | refine Below.trans ?_ (Below.mono (by assumption) (by first | omega | (simp <;> omega)))))⟩
  · have HX := Lib.hid (show decide (xs = ys) = false from decide_eq_false hx)
    have HR := Lib.hid (show false = decide (xs = ys ∧ zs = us) from by simp [hx])
    clear hx
    go_enter Try.func32, Try.ntmps32
    go_wp2_with fail
    refine (slices_Equal_Pauli _ _ xs ys _ (Rd.below H0.out (show Below w.heap.size w _ from (by repeat (first | exact Below.refl _ _ | assumption | refine Below.drew ?_ | refine below_drewN ?_ _ | refine Below.alloc ?_ (by first | omega | (simp <;> omega)) _ | refine Below.setCell ?_ (by first | omega | (simp <;> omega)) _ | refine Below.trans ?_ (Below.mono (by assumption) (by first | omega | (simp <;> omega)))))) rfl) (Rd.below K0.out (show Below w.heap.size w _ from (by repeat (first | exact Below.refl _ _ | assumption | refine Below.drew ?_ | refine below_drewN ?_ _ | refine Below.alloc ?_ (by first | omega | (simp <;> omega)) _ | refine Below.setCell ?_ (by first | omega | (simp <;> omega)) _ | refine Below.trans ?_ (Below.mono (by assumption) (by first | omega | (simp <;> omega)))))) rfl)).mono ?_; rintro e w1 ⟨rfl, hb1⟩; rw [HX.out]
    obtain ⟨hc_hb1, hf_hb1⟩ := bcell hb1; have hz_hb1 := hb1.size; (try simp at hz_hb1); have hs0_hb1 : w.heap.size < w1.heap.size := (by omega); have hs1_hb1 : w.heap.size + 1 < w1.heap.size := (by omega)
    go_wp2_with fail
    go_ret
    exact ⟨ret_bool HR.out, (by repeat (first | exact Below.refl _ _ | assumption | refine Below.drew ?_ | refine below_drewN ?_ _ | refine Below.alloc ?_ (by first | omega | (simp <;> omega)) _ | refine Below.setCell ?_ (by first | omega | (simp <;> omega)) _ | refine Below.trans ?_ (Below.mono (by assumption) (by first | omega | (simp <;> omega)))))⟩
end Go.Proofs.Ytfcmakabejnicaa
