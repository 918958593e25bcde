/- A valid tableau: the program's test. -/
import Derived.Test.YtnckabohlakbgaaGreatZ08M
import Derived.Test.YtnckabohlakbgaaGreatZ18M
import Derived.Test.YtnckabohlakbgaaGreatZ19CatPauli
import Derived.Deep.RegionHeld3
import Derived.Test.YtnckabohlakbgaaGreatZ06Brk
namespace Go.Proofs.YtnckabohlakbgaaGreat
set_option linter.unusedSimpArgs false
set_option linter.unusedVariables false
set_option linter.unnecessarySimpa false
set_option maxRecDepth 200000
open Go.ChangeShapes Go.WideShapes Go.ChangeAt Go.RowKit

theorem tab_n {d : Tab} (h : ¬ (1 ≤ d.n ∧ d.n ≤ 5)) : tabB d = false := decide_eq_false fun k => h k.1
theorem tab_x {d : Tab} (h : (d.xs.length : Int) ≠ d.n) : tabB d = false := decide_eq_false fun k => h k.2.1
theorem tab_z {d : Tab} (h : (d.zs.length : Int) ≠ d.n) : tabB d = false := decide_eq_false fun k => h k.2.2.1
theorem getD_E {L : List E3} {i : Nat} (h : i < L.length) : L.getD i ⟨0, 0, 0⟩ = L[i] := by simp [List.getD, h]
theorem im_all {n : Int} {L : List E3} (h1 : 1 ≤ n ∧ n ≤ 5) (h : (L.any fun g => !imB n g) = false) : ∀ i, i < L.length → ImOk n (L.getD i ⟨0, 0, 0⟩) := by
  intro i hi
  rw [getD_E hi]
  have h2 := List.any_eq_false.1 h L[i] (List.getElem_mem hi)
  simp at h2
  exact (of_decide_eq_true h2).2
theorem tab_im {d : Tab} (h : ((d.xs ++ d.zs).any fun g => !imB d.n g) = true) : tabB d = false := by
  refine decide_eq_false fun k => ?_
  obtain ⟨g, hg, hb⟩ := List.any_eq_true.1 h
  obtain ⟨i, hi, rfl⟩ := List.mem_iff_getElem.1 hg
  have h2 := k.2.2.2.1 i (by simpa using hi)
  rw [getD_E hi] at h2
  have h3 : imB d.n (d.xs ++ d.zs)[i] = true := decide_eq_true ⟨k.1, h2⟩
  rw [h3] at hb; cases hb
def PairsTo (n : Int) (L : List E3) (k : Nat) : Prop := ∀ i, i < k → ∀ j, j < i → pairB n L i j = true
def PairsAt (n : Int) (L : List E3) (i k : Nat) : Prop := ∀ j, j < k → pairB n L i j = true
theorem PairsTo.next {n : Int} {L : List E3} {k : Nat} (h : PairsTo n L k) (h2 : PairsAt n L k k) : PairsTo n L (k + 1) := by
  intro i hi j hj
  by_cases e : i = k
  · subst e; exact h2 j hj
  · exact h i (by omega) j hj
theorem PairsAt.next {n : Int} {L : List E3} {i k : Nat} (h : PairsAt n L i k) (h2 : pairB n L i k = true) : PairsAt n L i (k + 1) := by
  intro j hj
  by_cases e : j = k
  · subst e; exact h2
  · exact h j (by omega)
theorem tab_yes {d : Tab} {k : Nat} (h1 : 1 ≤ d.n ∧ d.n ≤ 5) (h2 : (d.xs.length : Int) = d.n) (h3 : (d.zs.length : Int) = d.n) (h4 : ∀ i, i < d.xs.length + d.zs.length → ImOk d.n ((d.xs ++ d.zs).getD i ⟨0, 0, 0⟩))
    (h5 : PairsTo d.n (d.xs ++ d.zs) k) (hk : d.xs.length + d.zs.length ≤ k) : true = tabB d :=
  (decide_eq_true ⟨h1, h2, h3, h4, fun i hi j hj => h5 i (by omega) j hj⟩).symm
theorem tab_no {d : Tab} {i j : Nat} (hi : i < d.xs.length + d.zs.length) (hj : j < i) (h : pairB d.n (d.xs ++ d.zs) i j = false) : false = tabB d := by
  refine (decide_eq_false fun k => ?_).symm
  have := k.2.2.2.2 i hi j hj
  rw [h] at this; cases this
theorem IsValidTableau1_any (B : Nat) (n : Int) (gs : List E3) (w : World) (hB : B < w.heap.size) (hc : w.cell? ⟨B, 0, none⟩ = some (.int .i64 n)) :
    PredB 42 #[.pointer (some ⟨B, 0, none⟩)] encPauli (fun g => !imB n g) gs w := by
  intro W x _ hb
  have hc' := (hb.cell (p := ⟨B, 0, none⟩) hB).trans hc
  have hBW : B < W.heap.size := Nat.lt_of_lt_of_le hB hb.size
  clear hc hb
  show Calls Tryz.prog 42 #[.agg #[.int .i64 x.a, .int .i64 x.b, .int .i64 x.c], .pointer (some ⟨B, 0, none⟩)] W _
  go_enter Tryz.func42, Tryz.ntmps42
  go_wp2_with fail
  refine (impl_isImage_any n x _).mono ?_; rintro e w1 ⟨rfl, hb1⟩
  obtain ⟨hc_hb1, hf_hb1⟩ := bcell hb1; have hz_hb1 := hb1.size; (try simp at hz_hb1)
  go_wp2_with fail
  go_ret
  exact ⟨rfl, Below.trans (show Below W.heap.size W (W.alloc (.cells #[.int .i64 x.a, .int .i64 x.b, .int .i64 x.c] 33)) from belo) (hb1.mono (by simp))⟩
/-- The cells of a slice of valid operators. -/
theorem pau_at {w : World} {v : Value} {L : List E3} {n : Int} (h : RdE w v E3.cs 3 L) (h0 : 1 ≤ n) (h1 : n ≤ 5) (hi : ∀ i, i < L.length → PauOk n (L.getD i ⟨0, 0, 0⟩)) : ∃ A c, v = .slice A L.length c ∧ Hid (∀ k, k < L.length → ∃ b off, A = some ⟨b, off, none⟩ ∧ b < w.heap.size ∧ PNok (tn (L.getD k ⟨0, 0, 0⟩)) ∧ w.cell? ⟨b, off + k * 3, none⟩ = some (.int .i64 ((tn (L.getD k ⟨0, 0, 0⟩)).p : Int)) ∧ w.cell? ⟨b, off + k * 3 + 1, none⟩ = some (.int .i64 ((tn (L.getD k ⟨0, 0, 0⟩)).x : Int)) ∧ w.cell? ⟨b, off + k * 3 + 2, none⟩ = some (.int .i64 ((tn (L.getD k ⟨0, 0, 0⟩)).z : Int))) := by
  rcases h.cases0 E3.len with ⟨he, A, c, rfl⟩ | ⟨_, b, off, cap, rfl, hb, hl, hm, hc⟩
  · subst he
    exact ⟨A, c, rfl, show ∀ _, _ from fun k hk => by simp at hk⟩
  · refine ⟨_, cap, rfl, show ∀ _, _ from fun k hk => ⟨b, off, rfl, hb, ?_⟩⟩
    obtain ⟨e, ok⟩ := (hi k hk).nat h0 h1
    rw [getD_E hk] at e ok ⊢
    refine ⟨ok, ?_⟩
    have e0 : L[k].a = ((tn L[k]).p : Int) := congrArg E3.a e
    have e1 : L[k].b = ((tn L[k]).x : Int) := congrArg E3.b e
    have e2 : L[k].c = ((tn L[k]).z : Int) := congrArg E3.c e
    exact ⟨hc k hk 0 _ (by omega) (by rw [← e0]; rfl), hc k hk 1 _ (by omega) (by rw [← e1]; rfl), hc k hk 2 _ (by omega) (by rw [← e2]; rfl)⟩
set_option maxHeartbeats 8000000 in
theorem impl_IsValidTableau_any (d : Tab) (v0 v1 : Value) (w : World) (h0 : RdE w v0 E3.cs 3 d.xs) (h1 : RdE w v1 E3.cs 3 d.zs) (n0 : d.xs.length ≤ 1048576) (n1 : d.zs.length ≤ 1048576) :
    Calls Tryz.prog 14 #[.agg #[.int .i64 d.n, v0, v1]] w fun e w' => e = .returned (.bool (tabB d)) ∧ Below w.heap.size w w' := by
  have H0 := Lib.hid h0; have H1 := Lib.hid h1
  have eg := enters_of Tryz.func42 (by kernel_rfl) rfl
  have Eg := Lib.hid eg; clear eg
  obtain ⟨A, c, rfl, _⟩ := h0.form
  obtain ⟨A2, c2, rfl, _⟩ := h1.form
  clear h0 h1
  by_cases hn : 1 ≤ d.n ∧ d.n ≤ 5
  · have N1 := Lib.hid (show inB d.n 1 5 = true from by simpa [inB] using hn)
    by_cases hx : (d.xs.length : Int) = d.n
    · have gx : ((d.xs.length : Int) != d.n) = false := by simpa using hx
      by_cases hz : (d.zs.length : Int) = d.n
      · have gz : ((d.zs.length : Int) != d.n) = false := by simpa using hz
        have HN := Lib.hid hn; have HX := Lib.hid hx; have HZ := Lib.hid hz
        clear hn hx hz
        obtain ⟨L, hL⟩ : ∃ L, L = d.xs ++ d.zs := ⟨_, rfl⟩
        have HL := Lib.hid hL
        have HLL : Hid (L.length = d.xs.length + d.zs.length) := (show _ = _ by rw [hL]; exact List.length_append)
        clear hL
        cases hc : L.any fun g => !imB d.n g with
        | true =>
          have HR := Lib.hid (tab_im (d := d) (by rw [← HL.out]; exact hc)); have HC := Lib.hid hc; clear hc
          go_enter Tryz.func14, Tryz.ntmps14
          go_wp2_with (go_at_call 39; refine (within_is N1.out _).mono ?_; rintro e w' ⟨rfl, rfl⟩)
          refine (slices_Concat_Pauli (w.heap.size + 1 + 1) _ _ d.xs d.zs _ (by exact cela) (by exact cela) (Rd.below H0.out (show Below w.heap.size w _ from belo) rfl) (Rd.below H1.out (show Below w.heap.size w _ from belo) rfl) n0 n1 (by have := HN.out; have := HX.out; omega)).mono ?_; rintro e w1 ⟨v, rfl, ho, hb1⟩; rw [← HL.out] at ho
          have r1 := below_cell hb1 rfl (show ((((w.alloc (.cells #[.int .i64 d.n, .slice A d.xs.length c, .slice A2 d.zs.length c2] 29)).alloc (.cells #[.int .i64 d.n] 3)).alloc (.cells #[.slice A d.xs.length c, .slice A2 d.zs.length c2] 27)).cell? ⟨w.heap.size + 1, 0, none⟩ = some (.int .i64 d.n)) from cela)
          have z1 := hb1.size; (simp at z1)
          obtain ⟨av, cv, rfl⟩ := ho.forms
          have HO := Lib.hid ho; clear ho
          have bw1 := Lib.hid (show Below w.heap.size w w1 from belo); clear hb1
          go_wp2_with fail
          refine (slices_ContainsFunc_Pauli _ _ (fun g => !imB d.n g) Eg.out _ L _ HO.out.rd (IsValidTableau1_any (w.heap.size + 1) d.n _ _ (by omega) r1)).mono ?_; rintro e w2 ⟨rfl, hb2⟩; rw [HC.out]
          go_wp2_with fail
          go_ret
          exact ⟨ret_bool (by rw [HR.out]), below_step bw1.out hb2⟩
        | false =>
          have HC := Lib.hid hc; clear hc
          have HI := Lib.hid (im_all HN.out HC.out)
          go_enter Tryz.func14, Tryz.ntmps14
          go_wp2_with (go_at_call 39; refine (within_is N1.out _).mono ?_; rintro e w' ⟨rfl, rfl⟩)
          refine (slices_Concat_Pauli (w.heap.size + 1 + 1) _ _ d.xs d.zs _ (by exact cela) (by exact cela) (Rd.below H0.out (show Below w.heap.size w _ from belo) rfl) (Rd.below H1.out (show Below w.heap.size w _ from belo) rfl) n0 n1 (by have := HN.out; have := HX.out; omega)).mono ?_; rintro e w1 ⟨v, rfl, ho, hb1⟩; rw [← HL.out] at ho
          have r1 := below_cell hb1 rfl (show ((((w.alloc (.cells #[.int .i64 d.n, .slice A d.xs.length c, .slice A2 d.zs.length c2] 29)).alloc (.cells #[.int .i64 d.n] 3)).alloc (.cells #[.slice A d.xs.length c, .slice A2 d.zs.length c2] 27)).cell? ⟨w.heap.size + 1, 0, none⟩ = some (.int .i64 d.n)) from cela)
          have z1 := hb1.size; (simp at z1)
          obtain ⟨av, cv, rfl⟩ := ho.forms
          have HO := Lib.hid ho; clear ho
          have bw1 := Lib.hid (show Below w.heap.size w w1 from belo); clear hb1
          go_wp2_with fail
          refine (slices_ContainsFunc_Pauli _ _ (fun g => !imB d.n g) Eg.out _ L _ HO.out.rd (IsValidTableau1_any (w.heap.size + 1) d.n _ _ (by omega) r1)).mono ?_; rintro e w2 ⟨rfl, hb2⟩; rw [HC.out]
          replace r1 := below_cell hb2 rfl r1
          obtain ⟨A9, c9, e9, HG⟩ := pau_at (OwnE.rd (OwnE.below HO.out hb2 rfl)) HN.out.1 HN.out.2 (fun i hi => (HI.out i hi).1)
          injection e9 with e9 e8 e7; subst e9; subst e7; clear e8
          have bw2 := Lib.hid (below_step bw1.out hb2); have z2 := hb2.size
          clear hb2 HO bw1
          obtain ⟨N, hN⟩ : ∃ N, N = L.length := ⟨_, rfl⟩
          have HNN : Hid ((N : Int) = d.n + d.n) := (show _ = _ by have := HX.out; have := HZ.out; have := HLL.out; omega)
          obtain ⟨n2, n3⟩ := HN.out
          have hN2 : (N : Int) ≤ 10 := by have := HNN.out; omega
          rw [← hN] at HG HLL ⊢
          have HNE := Lib.hid hN; clear hN
          go_wp2_with fail
          go_loopw [37] (fun i wr => ∃ k : Nat, k ≤ N ∧ i = .int .i64 k ∧ Hid (PairsTo d.n L k) ∧ Hid (Below w2.heap.size w2 wr)) (fun i _ => N - (intOf i).toNat)
          case atStart => exact ⟨0, Nat.zero_le _, rfl, (show PairsTo _ _ _ from fun i hi => absurd hi (Nat.not_lt_zero _)), (show Below _ _ _ from Below.refl _ _)⟩
          case round =>
            obtain ⟨k, hk, rfl, hpr, hbel⟩ := hrel
            by_cases hlt : k < N
            · have i1 : (k : Int) < (N : Int) := by omega
              obtain ⟨wo, rfl⟩ : ∃ wo : World, wo = wr := ⟨_, rfl⟩
              go_wp2_with fail
              go_loopw [41] (fun i wr => ∃ j : Nat, j ≤ k ∧ i = .int .i64 j ∧ Hid (PairsAt d.n L k j) ∧ Hid (Below w2.heap.size w2 wr)) (fun i _ => k - (intOf i).toNat)
              case atStart => exact ⟨0, Nat.zero_le _, rfl, (show PairsAt _ _ _ _ from fun i hi => absurd hi (Nat.not_lt_zero _)), hbel⟩
              case round =>
                obtain ⟨j, hj, rfl, hpa, hbe2⟩ := hrel
                by_cases hjl : j < k
                · have j1 : (j : Int) < (k : Int) := by omega
                  have j2 : (j : Int) < (N : Int) := by omega
                  have j3 : (0 : Int) ≤ k := by omega
                  have j4 : (0 : Int) ≤ j := by omega
                  obtain ⟨g, off, rfl, hg, ok1, p0, p1, p2⟩ := HG.out k hlt
                  obtain ⟨g', off', e9, _, ok2, q0, q1, q2⟩ := HG.out j (by omega)
                  injection e9 with e9; injection e9 with e9 e8; subst e9; subst e8
                  replace p0 := (hbe2.out.cell hg).trans p0; replace p1 := (hbe2.out.cell hg).trans p1; replace p2 := (hbe2.out.cell hg).trans p2
                  replace q0 := (hbe2.out.cell hg).trans q0; replace q1 := (hbe2.out.cell hg).trans q1; replace q2 := (hbe2.out.cell hg).trans q2
                  have rn := (hbe2.out.cell (p := ⟨w.heap.size + 1, 0, none⟩) (by show w.heap.size + 1 < _; omega)).trans r1
                  have HP : Hid (pairB d.n L k j = (commN (tn (L.getD k ⟨0, 0, 0⟩)) (tn (L.getD j ⟨0, 0, 0⟩)) != decide ((k : Int) = (j : Int) + d.n))) := rfl
                  obtain ⟨P, hP⟩ : ∃ P, P = tn (L.getD k ⟨0, 0, 0⟩) := ⟨_, rfl⟩
                  obtain ⟨R, hR⟩ : ∃ R, R = tn (L.getD j ⟨0, 0, 0⟩) := ⟨_, rfl⟩
                  rw [← hP] at p0 p1 p2 ok1 HP
                  rw [← hR] at q0 q1 q2 ok2 HP
                  have OK1 := Lib.hid ok1; have OK2 := Lib.hid ok2
                  have zr := hbe2.out.size
                  clear hP hR ok1 ok2 HI
                  have hw : IntKind.i64.wrap ((k : Int) - (j : Int)) = (k : Int) - (j : Int) := IntWalk.i64_in _ (by omega)
                  have HT : Hid (((k : Int) - (j : Int) == d.n) = decide ((k : Int) = (j : Int) + d.n)) := (show _ = _ by rw [Bool.eq_iff_iff]; simp only [beq_iff_eq, decide_eq_true_eq]; omega)
                  rw [← HT.out] at HP
                  cases hc : commN P R <;> cases he : ((k : Int) - (j : Int) == d.n)
                  all_goals
                    have hcc := impl_commute_any P R
                    rw [hc] at hcc
                    have HCM := Lib.hid hcc; clear hcc
                    rw [hc, he] at HP
                    clear hc
                    go_wp2_with fail
                    go_region_held3 (fun w' => w'.cell? ⟨g, off + k * 3, none⟩ = some (.int .i64 (P.p : Int)) ∧ w'.cell? ⟨g, off + k * 3 + 1, none⟩ = some (.int .i64 (P.x : Int)) ∧ w'.cell? ⟨g, off + k * 3 + 2, none⟩ = some (.int .i64 (P.z : Int)) ∧ w'.cell? ⟨g, off + j * 3, none⟩ = some (.int .i64 (R.p : Int)) ∧ w'.cell? ⟨g, off + j * 3 + 1, none⟩ = some (.int .i64 (R.x : Int)) ∧ w'.cell? ⟨g, off + j * 3 + 2, none⟩ = some (.int .i64 (R.z : Int)) ∧ w'.cell? ⟨w.heap.size + 1, 0, none⟩ = some (.int .i64 d.n)) (first | go_keep | (go_split_ands; refine ⟨?_, ?_, ?_, ?_, ?_, ?_, ?_⟩ <;> (refine below_cell hb3 rfl ?_; assumption))) ((go_at_call 44; refine (HCM.out _ OK1.out OK2.out).mono ?_; rintro e w3 ⟨rfl, hb3⟩))
                    have B3 := Lib.hid (show Below w2.heap.size w2 w3 from Below.trans hbe2.out (Below.trans (show Below w2.heap.size wr wr.drew from belo) (hb3.mono (by simp; omega))))
                    clear hb3 hbe2
                    go_wp2_with fail
                    first
                      | (go_roundw
                         case rel => exact ⟨j + 1, by omega, by go_num, PairsAt.next hpa.out HP.out, B3⟩
                         case measure => simp [intOf]; omega)
                      | (go_ret
                         exact ⟨ret_bool (tab_no (i := k) (j := j) (by have := HLL.out; omega) hjl (by rw [← HL.out]; exact HP.out)), Below.trans bw2.out (B3.out.mono (by have := bw2.out.size; omega))⟩)
                · have e : j = k := by omega
                  subst e
                  go_wp2_with fail
                  go_roundw
                  case rel => exact ⟨j + 1, by omega, by go_num, PairsTo.next hpr.out hpa.out, hbe2⟩
                  case measure => simp [intOf]; omega
            · go_wp2_with fail
              go_ret
              exact ⟨ret_bool (tab_yes HN.out HX.out HZ.out (fun i hi => by rw [← HL.out]; exact HI.out i (by rw [← HNE.out, HLL.out]; exact hi)) (by rw [← HL.out]; exact hpr.out) (by rw [← HLL.out]; omega)), Below.trans bw2.out (hbel.out.mono (by have := bw2.out.size; omega))⟩
      · have HR := Lib.hid (tab_z hz)
        have gz : ((d.zs.length : Int) != d.n) = true := by simpa using hz
        clear hn hx hz
        go_enter Tryz.func14, Tryz.ntmps14
        go_wp2_with (go_at_call 39; refine (within_is N1.out _).mono ?_; rintro e w' ⟨rfl, rfl⟩)
        go_ret
        exact ⟨ret_bool (by rw [HR.out]), belo⟩
    · have HR := Lib.hid (tab_x hx)
      have gx : ((d.xs.length : Int) != d.n) = true := by simpa using hx
      clear hn hx
      go_enter Tryz.func14, Tryz.ntmps14
      go_wp2_with (go_at_call 39; refine (within_is N1.out _).mono ?_; rintro e w' ⟨rfl, rfl⟩)
      go_ret
      exact ⟨ret_bool (by rw [HR.out]), belo⟩
  · have HR := Lib.hid (tab_n hn)
    have N1 := Lib.hid (show inB d.n 1 5 = false from by simpa [inB] using hn)
    clear hn
    go_enter Tryz.func14, Tryz.ntmps14
    go_wp2_with (go_at_call 39; refine (within_is N1.out _).mono ?_; rintro e w' ⟨rfl, rfl⟩)
    go_ret
    exact ⟨ret_bool (by rw [HR.out]), belo⟩
end Go.Proofs.YtnckabohlakbgaaGreat
namespace Go.Proofs.YtnckabohlakbgaaGreat
set_option linter.unusedSimpArgs false
set_option linter.unusedVariables false
set_option linter.unnecessarySimpa false
set_option maxRecDepth 200000
open Go.ChangeShapes Go.WideShapes Go.ChangeAt Go.RowKit

theorem grown_old0 {w w' : World} {v u : Value} {sz n b o : Nat} {e : TypeId} {xs : List Value} (hown : w.ownsRow (b + 1) e sz v n xs) (hg : w.grownBy w' v.ownBlock) (hc : w.cell? ⟨b, o, none⟩ = some u) : w'.cell? ⟨b, o, none⟩ = some u :=
  (grown_old hown hg (Nat.lt_succ_self b) (World.block_lt_of_cell? w ⟨b, o, none⟩ hc)).1.trans hc
theorem tab_bad {d : Tab} {i : Nat} (hi : i < d.xs.length + d.zs.length) (h : ¬ ImOk d.n ((d.xs ++ d.zs).getD i ⟨0, 0, 0⟩)) : false = tabB d :=
  (decide_eq_false fun k => h (k.2.2.2.1 i hi)).symm
def ImsTo (n : Int) (L : List E3) (k : Nat) : Prop := ∀ i, i < k → ImOk n (L.getD i ⟨0, 0, 0⟩)
theorem ImsTo.next {n : Int} {L : List E3} {k : Nat} (h : ImsTo n L k) (h2 : ImOk n (L.getD k ⟨0, 0, 0⟩)) : ImsTo n L (k + 1) := by
  intro i hi
  by_cases e : i = k
  · subst e; exact h2
  · exact h i (by omega)
theorem pauB_ok {n : Int} {g : E3} (h : pauB n g = true) : PauOk n g := (of_decide_eq_true h).2
set_option maxHeartbeats 16000000 in
theorem spec_l7Good_any (d : Tab) (v0 v1 : Value) (w : World) (h0 : RdE w v0 E3.cs 3 d.xs) (h1 : RdE w v1 E3.cs 3 d.zs) (n0 : d.xs.length ≤ 1048576) (n1 : d.zs.length ≤ 1048576) :
    Calls Tryz.prog 34 #[.agg #[.int .i64 d.n, v0, v1]] w fun e w' => e = .returned (.bool (tabB d)) ∧ Below w.heap.size w w' := by
  have H0 := Lib.hid h0; have H1 := Lib.hid h1
  obtain ⟨i0, hi, hz0, hz1, hz2⟩ := info_parts info_Pauli
  obtain ⟨A, c, rfl, _⟩ := h0.form
  obtain ⟨A2, c2, rfl, _⟩ := h1.form
  clear h0 h1
  by_cases hn : 1 ≤ d.n ∧ d.n ≤ 5
  · have N1 := Lib.hid (show inB d.n 1 5 = true from by simpa [inB] using hn)
    by_cases hx : (d.xs.length : Int) = d.n
    · have gx : ((d.xs.length : Int) != d.n) = false := by simpa using hx
      by_cases hz : (d.zs.length : Int) = d.n
      · have gz : ((d.zs.length : Int) != d.n) = false := by simpa using hz
        have HN := Lib.hid hn; have HX := Lib.hid hx; have HZ := Lib.hid hz
        have hpos : 0 < d.xs.length := by omega
        clear hn hx hz
        obtain ⟨L, hL⟩ : ∃ L, L = d.xs ++ d.zs := ⟨_, rfl⟩
        have HL := Lib.hid hL
        have HLL : Hid (L.length = d.xs.length + d.zs.length) := (show _ = _ by rw [hL]; exact List.length_append)
        have HLF : Hid (L.flatMap E3.cs = d.xs.flatMap E3.cs ++ d.zs.flatMap E3.cs) := (show _ = _ by rw [hL]; exact List.flatMap_append)
        clear hL
        go_enter Tryz.func34, Tryz.ntmps34
        go_wp2_with (go_at_call 72; refine (l1In_is N1.out _).mono ?_; rintro e w' ⟨rfl, rfl⟩)
        have t1 : (w.alloc (.cells #[.int .i64 d.n, .slice A d.xs.length c, .slice A2 d.zs.length c2] 29)).cell? ⟨w.heap.size, 1, none⟩ = some (.slice A d.xs.length c) := cela
        have t2 : (w.alloc (.cells #[.int .i64 d.n, .slice A d.xs.length c, .slice A2 d.zs.length c2] 29)).cell? ⟨w.heap.size, 2, none⟩ = some (.slice A2 d.zs.length c2) := cela
        have t0 : (w.alloc (.cells #[.int .i64 d.n, .slice A d.xs.length c, .slice A2 d.zs.length c2] 29)).cell? ⟨w.heap.size, 0, none⟩ = some (.int .i64 d.n) := cela
        refine AnyB.begin (S := (fun w' => w'.cell? ⟨w.heap.size, 1, none⟩ = some (.slice A d.xs.length c) ∧ w'.cell? ⟨w.heap.size, 2, none⟩ = some (.slice A2 d.zs.length c2))) [] (by kernel_rfl) ?_ (fun hHeld0 => ?_)
        · ((try dsimp only); (first | exact ⟨t1, t2⟩ | (go_split_ands; exact ⟨cell_alloc_keep _ (by assumption), cell_alloc_keep _ (by assumption)⟩)))
        refine AnyB.tq (i := 1) (h := ?_)
        refine AnyB.tk (i := 2) (h := ?_)
        refine AnyB.tq (i := 4) (h := ?_)
        refine AnyB.tk (i := 5) (h := ?_)
        refine AnyB.each (rs := [0]) (by kernel_rfl) (by simp) ?_
        refine EachB.cons rfl (fun K hK hB => ?_) ?_
        · skip
          go_simp
          refine hK.out _ _ ?_ (fun hHeld1 => ?_)
          · ((try dsimp only); (first | exact ⟨t1, t2⟩ | (go_split_ands; exact ⟨cell_alloc_keep _ (by assumption), cell_alloc_keep _ (by assumption)⟩)))
          clear hB hK K hHeld0
          refine AnyB.each (rs := [3]) (by kernel_rfl) (by simp) ?_
          refine EachB.cons rfl (fun K hK hB => ?_) ?_
          · skip
            (refine step_append_any _ (by rfl) (.tmp 28) (.tmp 30) 27 (by rfl) (w.heap.size + 1) 33 i0 (.agg #[.int .i64 0, .int .i64 0, .int .i64 0]) 3 24 Tryz.underlying27 hi hz0 hz1 hz2 rfl (by omega) _ 0 [] (by rfl) (own_lit0 (f := E3.cs) (sz := 3) (w.alloc (.cells #[.int .i64 d.n, .slice A d.xs.length c, .slice A2 d.zs.length c2] 29)).drew (w.heap.size + 1) 33 (w.heap.size + 1) (by simp) (by omega)) w.heap.size A d.xs.length c (d.xs.flatMap E3.cs) (by rfl) ((Reads.of_rd H0.out).below belo) (flat_one E3.one _) (by unfold maxLen; omega) (by omega) (by simp) ?_; intro va w1 hown1 hg1 hat1; have hB1 := Lib.hid (show Below (w.heap.size + 1) (w.alloc (.cells #[.int .i64 d.n, .slice A d.xs.length c, .slice A2 d.zs.length c2] 29)) w1 from grown_below belo (own_lit0 (f := E3.cs) (sz := 3) (w.alloc (.cells #[.int .i64 d.n, .slice A d.xs.length c, .slice A2 d.zs.length c2] 29)).drew (w.heap.size + 1) 33 (w.heap.size + 1) (by simp) (by omega)) hg1 (Nat.le_refl _) (by simp)); have s1 := hg1.size; (simp at s1); replace t0 := (hB1.out.cell (p := ⟨w.heap.size, 0, none⟩) (by simp)).trans t0; replace t1 := (hB1.out.cell (p := ⟨w.heap.size, 1, none⟩) (by simp)).trans t1; replace t2 := (hB1.out.cell (p := ⟨w.heap.size, 2, none⟩) (by simp)).trans t2; have O1 := Lib.hid hown1; (simp only [Nat.zero_add, List.nil_append] at O1); clear hown1 hg1 hat1)
            refine hK.out _ _ ?_ (fun hHeld2 => ?_)
            · ((try dsimp only); (first | exact ⟨t1, t2⟩ | (go_split_ands; exact ⟨cell_alloc_keep _ (by assumption), cell_alloc_keep _ (by assumption)⟩)))
            clear hB hK K hHeld1
            refine AnyB.each (rs := [6]) (by kernel_rfl) (by simp) ?_
            refine EachB.cons rfl (fun K hK hB => ?_) ?_
            · skip
              (refine step_append_any _ (by rfl) (.tmp 31) (.tmp 33) 27 (by rfl) (w.heap.size + 1) 33 i0 (.agg #[.int .i64 0, .int .i64 0, .int .i64 0]) 3 24 Tryz.underlying27 hi hz0 hz1 hz2 rfl (by omega) va d.xs.length _ (by rfl) O1.out w.heap.size A2 d.zs.length c2 (d.zs.flatMap E3.cs) (by rfl) ((Reads.of_rd H1.out).below (Below.trans (show Below w.heap.size w (w.alloc (.cells #[.int .i64 d.n, .slice A d.xs.length c, .slice A2 d.zs.length c2] 29)) from belo) (hB1.out.mono (by omega)))) (flat_one E3.one _) (by unfold maxLen; omega) (by omega) (by omega) ?_; intro vb w2 hown2 hg2 hat2; have hB2 := Lib.hid (show Below (w.heap.size + 1) (w.alloc (.cells #[.int .i64 d.n, .slice A d.xs.length c, .slice A2 d.zs.length c2] 29)) w2 from grown_below hB1.out O1.out hg2 (Nat.le_refl _) (by omega)); have s2 := hg2.size; replace t0 := grown_old0 O1.out hg2 t0; replace t1 := grown_old0 O1.out hg2 t1; replace t2 := grown_old0 O1.out hg2 t2; have O2 := Lib.hid hown2; clear hown2 hg2 hat2 hB1 O1)
              refine hK.out _ _ ?_ (fun hHeld3 => ?_)
              · ((try dsimp only); (first | exact ⟨t1, t2⟩ | (go_split_ands; exact ⟨cell_alloc_keep _ (by assumption), cell_alloc_keep _ (by assumption)⟩)))
              clear hB hK K hHeld2
              refine AnyB.tq (i := 7) (h := ?_)
              refine AnyB.none (by kernel_rfl) ?_ _
              have HO := Lib.hid (show OwnE w2 (w.heap.size + 1) 33 vb E3.cs 3 L from by unfold OwnE; rw [HLL.out, HLF.out]; exact O2.out); clear O2
              obtain ⟨N, hN⟩ : ∃ N, N = L.length := ⟨_, rfl⟩
              have HNN : Hid ((N : Int) = d.n + d.n) := (show _ = _ by have := HX.out; have := HZ.out; have := HLL.out; omega)
              obtain ⟨n2, n3⟩ := HN.out
              have hN2 : (N : Int) ≤ 10 := by have := HNN.out; omega
              obtain ⟨g, off, cv, rfl, hg, hcap, hcm, hcs⟩ := (RdE.cases0 E3.len HO.out.rd).elim (fun h => by have h2 := HLL.out; rw [h.1] at h2; simp at h2; omega) (fun h => h.2)
              rw [← hN] at HLL hcap ⊢
              have HNE := Lib.hid hN; have Hcs := Lib.hid hcs
              have bw2 := Lib.hid (show Below w.heap.size w w2 from Below.trans (show Below w.heap.size w (w.alloc (.cells #[.int .i64 d.n, .slice A d.xs.length c, .slice A2 d.zs.length c2] 29)) from belo) (hB2.out.mono (by omega)))
              have k1 : (N : Int) ≤ (cv : Int) := by omega
              have k2 : (cv : Int) ≤ 9223372036854775807 := by omega
              clear hN hcs t1 t2 hB2 HO
              go_wp2_with fail
              go_loopw [37] (fun i wr => ∃ k : Nat, k ≤ N ∧ i = .int .i64 k ∧ Hid (ImsTo d.n L k) ∧ Hid (PairsTo d.n L k) ∧ Hid (Below w2.heap.size w2 wr)) (fun i _ => N - (intOf i).toNat)
              case atStart => exact ⟨0, Nat.zero_le _, rfl, (show ImsTo _ _ _ from fun i hi => absurd hi (Nat.not_lt_zero _)), (show PairsTo _ _ _ from fun i hi => absurd hi (Nat.not_lt_zero _)), (show Below _ _ _ from Below.refl _ _)⟩
              case round =>
                obtain ⟨k, hk, rfl, him, hpr, hbel⟩ := hrel
                by_cases hlt : k < N
                · have i1 : (k : Int) < (N : Int) := by omega
                  have i2 : (k : Int) ≤ (cv : Int) := by omega
                  obtain ⟨wo, rfl⟩ : ∃ wo : World, wo = wr := ⟨_, rfl⟩
                  have hkL : k < L.length := by rw [← HNE.out]; exact hlt
                  obtain ⟨y, hy⟩ : ∃ y, y = L.getD k ⟨0, 0, 0⟩ := ⟨_, rfl⟩
                  have hy2 := hy.trans (getD_E hkL)
                  have q0 := (hbel.out.cell (p := ⟨g, off + k * 3, none⟩) hg).trans (Hcs.out k hkL 0 (.int .i64 y.a) (by omega) (by rw [hy2]; rfl))
                  have q1 := (hbel.out.cell (p := ⟨g, off + k * 3 + 1, none⟩) hg).trans (Hcs.out k hkL 1 (.int .i64 y.b) (by omega) (by rw [hy2]; rfl))
                  have q2 := (hbel.out.cell (p := ⟨g, off + k * 3 + 2, none⟩) hg).trans (Hcs.out k hkL 2 (.int .i64 y.c) (by omega) (by rw [hy2]; rfl))
                  have T0 := (hbel.out.cell (p := ⟨w.heap.size, 0, none⟩) (World.block_lt_of_cell? w2 _ t0)).trans t0
                  have HY := Lib.hid hy
                  have zo := hbel.out.size
                  clear hy hy2 hkL
                  have LT := World.block_lt_of_cell? wo _ T0
                  cases hp : pauB d.n y with
                  | false =>
                    have Hp := Lib.hid hp; clear hp
                    go_wp2_with (go_at_call 35; refine (spec_l7Valid_any d.n y _).mono ?_; rintro e w3 ⟨rfl, hb3⟩; rw [Hp.out])
                    go_ret
                    exact ⟨ret_bool (tab_bad (i := k) (by have := HLL.out; omega) (by rw [← HL.out, ← HY.out]; exact fun h => by have h2 : pauB d.n y = true := decide_eq_true ⟨HN.out, h.1⟩; rw [Hp.out] at h2; cases h2)), Below.trans bw2.out (Below.trans (hbel.out.mono bw2.out.size) (Below.trans (show Below w.heap.size wo (wo.alloc (.cells #[.int .i64 y.a, .int .i64 y.b, .int .i64 y.c] 33)) from belo) (hb3.mono (by simp; omega))))⟩
                  | true =>
                    obtain ⟨hye, ok1⟩ := (pauB_ok hp).nat n2 n3
                    obtain ⟨a0, a1⟩ := pauB_a hp
                    obtain ⟨P, rfl⟩ : ∃ P : PN, y = P.e := ⟨tn y, hye⟩
                    rw [tn_e] at ok1
                    have Hp := Lib.hid hp; have OK1 := Lib.hid ok1; clear hp hye ok1
                    dsimp only [PN.e] at q0 q1 q2 a0 a1
                    by_cases hodd : (P.p : Int) % 2 = 1
                    · have ho : ((P.p : Int) % 2 == 1) = true := by simpa using hodd
                      have Ho := Lib.hid hodd; clear hodd
                      go_wp2_with (go_at_call 35; refine (spec_l7Valid_any d.n P.e _).mono ?_; rintro e w3 ⟨rfl, hb3⟩; rw [Hp.out]; have e0 := below_cell hb3 rfl (show (wo.alloc (.cells #[.int .i64 (P.p : Int), .int .i64 (P.x : Int), .int .i64 (P.z : Int)] 33)).cell? ⟨wo.heap.size, 0, none⟩ = some (.int .i64 (P.p : Int)) from cela))
                      go_ret
                      exact ⟨ret_bool (tab_bad (i := k) (by have := HLL.out; omega) (by rw [← HL.out, ← HY.out]; exact fun h => by have h2 : (P.p : Int) % 2 = 0 := h.2; have h3 := Ho.out; omega)), Below.trans bw2.out (Below.trans (hbel.out.mono bw2.out.size) (Below.trans (show Below w.heap.size wo (wo.alloc (.cells #[.int .i64 (P.p : Int), .int .i64 (P.x : Int), .int .i64 (P.z : Int)] 33)) from belo) (hb3.mono (by simp; omega))))⟩
                    · have ho : ((P.p : Int) % 2 == 1) = false := by simpa using hodd
                      have him2 : Hid (ImsTo d.n L (k + 1)) := ImsTo.next him.out (by rw [← HY.out]; exact ⟨pauB_ok Hp.out, by show (P.p : Int) % 2 = 0; omega⟩)
                      clear hodd
                      go_wp2_with (go_at_call 35; refine (spec_l7Valid_any d.n P.e _).mono ?_; rintro e w3 ⟨rfl, hb3⟩; rw [Hp.out]; have e0 := below_cell hb3 rfl (show (wo.alloc (.cells #[.int .i64 (P.p : Int), .int .i64 (P.x : Int), .int .i64 (P.z : Int)] 33)).cell? ⟨wo.heap.size, 0, none⟩ = some (.int .i64 (P.p : Int)) from cela); have e1 := below_cell hb3 rfl (show (wo.alloc (.cells #[.int .i64 (P.p : Int), .int .i64 (P.x : Int), .int .i64 (P.z : Int)] 33)).cell? ⟨wo.heap.size, 1, none⟩ = some (.int .i64 (P.x : Int)) from cela); have e2 := below_cell hb3 rfl (show (wo.alloc (.cells #[.int .i64 (P.p : Int), .int .i64 (P.x : Int), .int .i64 (P.z : Int)] 33)).cell? ⟨wo.heap.size, 2, none⟩ = some (.int .i64 (P.z : Int)) from cela); have B3 := Lib.hid (show Below w2.heap.size w2 w3 from Below.trans hbel.out (Below.trans (show Below w2.heap.size wo (wo.alloc (.cells #[.int .i64 (P.p : Int), .int .i64 (P.x : Int), .int .i64 (P.z : Int)] 33)) from belo) (hb3.mono (by simp; omega)))); have S0 := below_cell hb3 rfl (cell_alloc_keep (.cells #[.int .i64 (P.p : Int), .int .i64 (P.x : Int), .int .i64 (P.z : Int)] 33) T0); have z3 := hb3.size; (simp at z3); clear hb3)
                      have LT3 := World.block_lt_of_cell? w3 _ e0
                      have LS3 := World.block_lt_of_cell? w3 _ S0
                      clear q0 q1 q2 hbel T0
                      go_loopw [57] (fun i wr => ∃ j : Nat, j ≤ k ∧ i = .int .i64 j ∧ Hid (PairsAt d.n L k j) ∧ Hid (Below w3.heap.size w3 wr)) (fun i _ => k - (intOf i).toNat)
                      case atStart => exact ⟨0, Nat.zero_le _, rfl, (show PairsAt _ _ _ _ from fun i hi => absurd hi (Nat.not_lt_zero _)), (show Below _ _ _ from Below.refl _ _)⟩
                      case round =>
                        obtain ⟨j, hj, rfl, hpa, hbe2⟩ := hrel
                        have zr := hbe2.out.size
                        by_cases hjl : j < k
                        · have j1 : (j : Int) < (k : Int) := by omega
                          have hjL : j < L.length := by have := HNE.out; omega
                          have HP : Hid (pairB d.n L k j = (commN (tn (L.getD k ⟨0, 0, 0⟩)) (tn (L.getD j ⟨0, 0, 0⟩)) != decide ((k : Int) = (j : Int) + d.n))) := rfl
                          obtain ⟨u, hu⟩ : ∃ u, u = L.getD j ⟨0, 0, 0⟩ := ⟨_, rfl⟩
                          have hu2 := hu.trans (getD_E hjL)
                          have hB := Lib.hid (show Below w2.heap.size w2 wr from Below.trans B3.out (hbe2.out.mono B3.out.size))
                          have q0 := (hB.out.cell (p := ⟨g, off + j * 3, none⟩) hg).trans (Hcs.out j hjL 0 (.int .i64 u.a) (by omega) (by rw [hu2]; rfl))
                          have q1 := (hB.out.cell (p := ⟨g, off + j * 3 + 1, none⟩) hg).trans (Hcs.out j hjL 1 (.int .i64 u.b) (by omega) (by rw [hu2]; rfl))
                          have q2 := (hB.out.cell (p := ⟨g, off + j * 3 + 2, none⟩) hg).trans (Hcs.out j hjL 2 (.int .i64 u.c) (by omega) (by rw [hu2]; rfl))
                          have him3 := him.out j hjl
                          rw [← HY.out, ← hu, tn_e] at HP
                          rw [← hu] at him3
                          obtain ⟨hue, ok2⟩ := him3.1.nat n2 n3
                          obtain ⟨R, rfl⟩ : ∃ R : PN, u = R.e := ⟨tn u, hue⟩
                          rw [tn_e] at ok2 HP
                          have OK2 := Lib.hid ok2
                          dsimp only [PN.e] at q0 q1 q2
                          clear hu hu2 him3 hue ok2 hjL
                          replace e0 := below_cell hbe2.out rfl e0; replace e1 := below_cell hbe2.out rfl e1; replace e2 := below_cell hbe2.out rfl e2; replace S0 := below_cell hbe2.out rfl S0
                          have HT : Hid (((k : Int) == (j : Int) + d.n) = decide ((k : Int) = (j : Int) + d.n)) := (show _ = _ by rw [Bool.eq_iff_iff]; simp only [beq_iff_eq, decide_eq_true_eq])
                          rw [← HT.out] at HP
                          have hw : IntKind.i64.wrap ((j : Int) + d.n) = (j : Int) + d.n := IntWalk.i64_in _ (by omega)
                          cases hc : commN P R <;> cases he : ((k : Int) == (j : Int) + d.n)
                          all_goals
                            have hcc := spec_l7Commute_any P R
                            rw [hc] at hcc
                            have HCM := Lib.hid hcc; clear hcc
                            rw [hc, he] at HP
                            clear hc
                            go_wp2_with fail
                            have f0 := cell_alloc_keep (.cells #[.int .i64 (R.p : Int), .int .i64 (R.x : Int), .int .i64 (R.z : Int)] 33) e0; have f1 := cell_alloc_keep (.cells #[.int .i64 (R.p : Int), .int .i64 (R.x : Int), .int .i64 (R.z : Int)] 33) e1; have f2 := cell_alloc_keep (.cells #[.int .i64 (R.p : Int), .int .i64 (R.x : Int), .int .i64 (R.z : Int)] 33) e2; have fS := cell_alloc_keep (.cells #[.int .i64 (R.p : Int), .int .i64 (R.x : Int), .int .i64 (R.z : Int)] 33) S0
                            have b0 : (wr.alloc (.cells #[.int .i64 (R.p : Int), .int .i64 (R.x : Int), .int .i64 (R.z : Int)] 33)).cell? ⟨wr.heap.size, 0, none⟩ = some (.int .i64 (R.p : Int)) := cela
                            have b1 : (wr.alloc (.cells #[.int .i64 (R.p : Int), .int .i64 (R.x : Int), .int .i64 (R.z : Int)] 33)).cell? ⟨wr.heap.size, 1, none⟩ = some (.int .i64 (R.x : Int)) := cela
                            have b2 : (wr.alloc (.cells #[.int .i64 (R.p : Int), .int .i64 (R.x : Int), .int .i64 (R.z : Int)] 33)).cell? ⟨wr.heap.size, 2, none⟩ = some (.int .i64 (R.z : Int)) := cela
                            go_region_held3 (fun w' => w'.cell? ⟨wo.heap.size, 0, none⟩ = some (.int .i64 (P.p : Int)) ∧ w'.cell? ⟨wo.heap.size, 1, none⟩ = some (.int .i64 (P.x : Int)) ∧ w'.cell? ⟨wo.heap.size, 2, none⟩ = some (.int .i64 (P.z : Int)) ∧ w'.cell? ⟨wr.heap.size, 0, none⟩ = some (.int .i64 (R.p : Int)) ∧ w'.cell? ⟨wr.heap.size, 1, none⟩ = some (.int .i64 (R.x : Int)) ∧ w'.cell? ⟨wr.heap.size, 2, none⟩ = some (.int .i64 (R.z : Int)) ∧ w'.cell? ⟨w.heap.size, 0, none⟩ = some (.int .i64 d.n)) (first | go_keep | (go_split_ands; refine ⟨?_, ?_, ?_, ?_, ?_, ?_, ?_⟩ <;> (refine below_cell hb4 rfl ?_; assumption))) ((go_at_call 73; refine (HCM.out _ OK1.out OK2.out).mono ?_; rintro e w4 ⟨rfl, hb4⟩))
                            have B4 := Lib.hid (show Below w3.heap.size w3 w4 from Below.trans hbe2.out (Below.trans (show Below w3.heap.size wr (wr.alloc (.cells #[.int .i64 (R.p : Int), .int .i64 (R.x : Int), .int .i64 (R.z : Int)] 33)).drew from belo) (hb4.mono (by simp; omega))))
                            clear hb4 hbe2
                            go_wp2_with fail
                            first
                              | (go_roundw
                                 case rel => exact ⟨j + 1, by omega, by go_num, PairsAt.next hpa.out HP.out, B4⟩
                                 case measure => simp [intOf]; omega)
                              | (go_ret
                                 exact ⟨ret_bool (tab_no (i := k) (j := j) (by have := HLL.out; omega) hjl (by rw [← HL.out]; exact HP.out)), Below.trans bw2.out (Below.trans (B3.out.mono bw2.out.size) (B4.out.mono (by have := B3.out.size; have := bw2.out.size; omega)))⟩)
                        · have e : j = k := by omega
                          subst e
                          go_wp2_with fail
                          go_roundw
                          case rel => exact ⟨j + 1, by omega, by go_num, him2, PairsTo.next hpr.out hpa.out, (show Below _ _ _ from Below.trans B3.out (hbe2.out.mono B3.out.size))⟩
                          case measure => simp [intOf]; omega
                · go_wp2_with fail
                  go_ret
                  exact ⟨ret_bool (tab_yes HN.out HX.out HZ.out (fun i hi => by rw [← HL.out]; exact him.out i (by have := HLL.out; omega)) (by rw [← HL.out]; exact hpr.out) (by have := HLL.out; omega)), Below.trans bw2.out (hbel.out.mono bw2.out.size)⟩
            exact EachB.nil
          exact EachB.nil
        exact EachB.nil
      · have HR := Lib.hid (tab_z hz)
        have gz : ((d.zs.length : Int) != d.n) = true := by simpa using hz
        clear hn hx hz
        go_enter Tryz.func34, Tryz.ntmps34
        go_wp2_with (go_at_call 72; refine (l1In_is N1.out _).mono ?_; rintro e w' ⟨rfl, rfl⟩)
        go_ret
        exact ⟨ret_bool (by rw [HR.out]), belo⟩
    · have HR := Lib.hid (tab_x hx)
      have gx : ((d.xs.length : Int) != d.n) = true := by simpa using hx
      clear hn hx
      go_enter Tryz.func34, Tryz.ntmps34
      go_wp2_with (go_at_call 72; refine (l1In_is N1.out _).mono ?_; rintro e w' ⟨rfl, rfl⟩)
      go_ret
      exact ⟨ret_bool (by rw [HR.out]), belo⟩
  · have HR := Lib.hid (tab_n hn)
    have N1 := Lib.hid (show inB d.n 1 5 = false from by simpa [inB] using hn)
    clear hn
    go_enter Tryz.func34, Tryz.ntmps34
    go_wp2_with (go_at_call 72; refine (l1In_is N1.out _).mono ?_; rintro e w' ⟨rfl, rfl⟩)
    go_ret
    exact ⟨ret_bool (by rw [HR.out]), belo⟩
end Go.Proofs.YtnckabohlakbgaaGreat
