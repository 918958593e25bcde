/- The walk through the law FnPaulis. -/
import Derived.Test.YteimcfbliigjmaaZ46Dy18
import Derived.Test.YteimcfbliigjmaaZ47M
import Derived.Test.YteimcfbliigjmaaZ49M
import Derived.BigRegion
import Derived.BigQuiet
import Derived.Deep.DeepCutAuto
namespace Go.Proofs.Yteimcfbliigjmaa
set_option linter.unusedSimpArgs false
set_option linter.unusedVariables false
set_option linter.unnecessarySimpa false
set_option maxRecDepth 200000
open Go.ChangeShapes Go.WideShapes Go.ChangeAt Go.RowKit

theorem Sb.push3 {B : Nat} {w0 w : World} {L : List (Nat × List Value)} (h : Sb B w0 w L) (a b c : Int) {g : Nat} (hg : w.heap.size = g) : Sb B w0 (w.alloc (.cells #[.int .i64 a, .int .i64 b, .int .i64 c] 24)) ((g, [.int .i64 a, .int .i64 b, .int .i64 c]) :: L) :=
  h.push [.int .i64 a, .int .i64 b, .int .i64 c] 24 hg
theorem Sb.pushM {B : Nat} {w0 w : World} {L : List (Nat × List Value)} (h : Sb B w0 w L) (a b : Int) (v : Value) {g : Nat} (hg : w.heap.size = g) : Sb B w0 (w.alloc (.cells #[.int .i64 a, .int .i64 b, v] 38)) ((g, [.int .i64 a, .int .i64 b, v]) :: L) :=
  h.push [.int .i64 a, .int .i64 b, v] 38 hg
theorem pauB_of {n : Nat} {a : PN} (h : PNn n a) (h1 : 1 ≤ n) (h5 : n ≤ 5) : pauB (n : Int) a.e = true := by
  rw [pauB_eq h1 h5]
  have hp : ((2 : Int) ^ n) = ((2 ^ n : Nat) : Int) := by push_cast; rfl
  have h1 := h.p; have h2 := h.x; have h3 := h.z
  show (inB (a.p : Int) 0 3 && (inB (a.x : Int) 0 (2 ^ n - 1) && inB (a.z : Int) 0 (2 ^ n - 1))) = true
  rw [hp]
  simp only [inB, Bool.and_eq_true, decide_eq_true_eq]
  omega
set_option maxHeartbeats 16000000 in
theorem walk_FnPaulis (v0 v1 : Value) (w : World) (h0 : IsBytes w v0) (h1 : IsBytes w v1) :
    Calls Try.prog 3 #[v0, v1] w fun e w' => e = .returned (.bool true) ∧ Below w.heap.size w w' := by
  obtain ⟨zs, hz, hr⟩ := h0
  obtain ⟨zs1, hz1, hr1⟩ := h1
  obtain ⟨A, c, rfl⟩ : ∃ a c, v0 = .slice a zs.length c := hz.form_any
  obtain ⟨A1, c1, rfl⟩ : ∃ a c, v1 = .slice a zs1.length c := hz1.form_any
  have HZ := Lib.hid hz
  have HR := Lib.hid hr
  have HZ1 := Lib.hid hz1
  have HR1 := Lib.hid hr1
  clear hz hr hz1 hr1
  go_enter Try.func3, Try.ntmps3
  by_cases hlen : (1048576 : Int) < wrap64 ((zs.length : Int) + (zs1.length : Int))
  · go_wp2_with fail
    go_ret
    exact ⟨rfl, (by repeat (first | exact Below.refl _ _ | assumption | refine Below.drew ?_ | refine below_drewN ?_ _ | refine Below.alloc ?_ (by first | omega | (simp <;> omega)) _ | refine Below.setCell ?_ (by first | omega | (simp <;> omega)) _ | refine Below.trans ?_ (Below.mono (by assumption) (by first | omega | (simp <;> omega)))))⟩
  · go_wp2_with fail
    refine (spec_DrawMulPauli_any _ zs _ HZ.out HR.out).mono ?_; rintro e w1 ⟨n, p, x, z, p2, x2, z2, rfl, hn1, hn4, hb1⟩
    obtain ⟨g6, hg6⟩ : ∃ g, w1.heap.size = g := ⟨_, rfl⟩
    have S1 := Lib.hid ((((Sb.nil w).call hb1).push3 p x z hg6).push3 p2 x2 z2 (g := g6 + 1) (by simp [hg6]))
    clear hb1
    obtain ⟨a, ha⟩ : ∃ a : E3, a = ⟨p, x, z⟩ := ⟨_, rfl⟩
    obtain ⟨b, hb⟩ : ∃ b : E3, b = ⟨p2, x2, z2⟩ := ⟨_, rfl⟩
    have C1 := Lib.hid (fun W => impl_MulPauli_any (n : Int) a b W)
    have C2 := Lib.hid (fun W => spec_MulPauli_any (n : Int) a b W)
    have C3 := Lib.hid (fun W => impl_MulPauli_any (n : Int) b a W)
    have C4 := Lib.hid (fun W (h1 : pauB (n : Int) a = true) (h2 : pauB (n : Int) b = true) => impl_Commute_ok (n : Int) a b W h1 h2)
    have HCM := Lib.hid (comm_R (n : Int) a b)
    have HQ : Hid ((pauB (n : Int) a && pauB (n : Int) b) = (pauB (n : Int) a && pauB (n : Int) b)) := (show (_ : Bool) = _ from rfl)
    have HMR : Hid (mulR (n : Int) a b = if pauB (n : Int) a && pauB (n : Int) b then (mulN (tn a) (tn b)).e else ⟨0, 0, 0⟩) := (show mulR (n : Int) a b = _ from rfl)
    obtain ⟨q, hq⟩ : ∃ q, q = (pauB (n : Int) a && pauB (n : Int) b) := ⟨_, rfl⟩
    obtain ⟨m, hm⟩ : ∃ m, m = mulR (n : Int) a b := ⟨_, rfl⟩
    rw [← hq, ← hm] at C1 C2
    rw [← hm, ← hq] at HMR
    rw [← hm] at HCM
    rw [show (pauB (n : Int) b && pauB (n : Int) a) = q from by rw [hq, Bool.and_comm]] at C3
    obtain ⟨r, hr⟩ : ∃ r, r = mulR (n : Int) b a := ⟨_, rfl⟩
    rw [← hr] at C3 HCM
    have HQ := Lib.hid hq
    have HA := Lib.hid ha
    have HBB := Lib.hid hb
    clear hq hm hr
    subst ha
    subst hb
    obtain ⟨ma, mb, mc⟩ := m
    obtain ⟨ra, rb, rc⟩ := r
    dsimp only [EC] at C1 C2 C3 C4
    obtain ⟨⟨a0, a1, a2⟩, -⟩ := (S1.out.at 1 rfl).c3
    obtain ⟨⟨b0, b1, b2⟩, -⟩ := (S1.out.at 0 rfl).c3
    go_wp2_with fail
    clear a0 a1 a2 b0 b1 b2
    generalize ((w1.alloc (.cells #[.int .i64 p, .int .i64 x, .int .i64 z] 24)).alloc (.cells #[.int .i64 p2, .int .i64 x2, .int .i64 z2] 24)) = w2 at *
    clear hg6
    refine (C1.out _).mono ?_; rintro e w3 ⟨rfl, hb3⟩
    obtain ⟨g8, hg8⟩ : ∃ g, w3.heap.size = g := ⟨_, rfl⟩
    have S2 := Lib.hid ((S1.out.call hb3).push3 ma mb mc hg8)
    clear hb3 S1 C1
    obtain ⟨⟨a0, a1, a2⟩, -⟩ := (S2.out.at 2 rfl).c3
    obtain ⟨⟨b0, b1, b2⟩, -⟩ := (S2.out.at 1 rfl).c3
    go_wp2_with fail
    clear a0 a1 a2 b0 b1 b2
    generalize (w3.alloc (.cells #[.int .i64 ma, .int .i64 mb, .int .i64 mc] 24)) = w4 at *
    clear hg8
    refine (C2.out _).mono ?_; rintro e w5 ⟨rfl, hb5⟩
    obtain ⟨g10, hg10⟩ : ∃ g, w5.heap.size = g := ⟨_, rfl⟩
    have S3 := Lib.hid ((S2.out.call hb5).push3 ma mb mc hg10)
    clear hb5 S2 C2
    go_wp2_with fail
    generalize (w5.alloc (.cells #[.int .i64 ma, .int .i64 mb, .int .i64 mc] 24)) = w6 at *
    clear hg10
    refine (spec_DrawFormatPauli_any _ zs1 _ (Rd.below HZ1.out S3.out.bel rfl) HR1.out).mono ?_; rintro e w7 ⟨k, fp, fx, fz, rfl, hb7⟩
    obtain ⟨g13, hg13⟩ : ∃ g, w7.heap.size = g := ⟨_, rfl⟩
    have S4 := Lib.hid ((S3.out.call hb7).push3 fp fx fz hg13)
    clear hb7 S3
    have C5 := Lib.hid (fun W => impl_FormatPauli_any k ⟨fp, fx, fz⟩ W)
    have C6 := Lib.hid (fun W => spec_FormatPauli_any k ⟨fp, fx, fz⟩ W)
    have C7 := Lib.hid (fun W => impl_IsValidPauli_any k ⟨fp, fx, fz⟩ W)
    generalize fmtP k ⟨fp, fx, fz⟩ = T at *
    generalize pauB k ⟨fp, fx, fz⟩ = u at *
    dsimp only [EC] at C5 C6; dsimp only at C7
    obtain ⟨⟨a0, a1, a2⟩, -⟩ := (S4.out.at 0 rfl).c3
    go_wp2_with fail
    clear a0 a1 a2
    generalize (w7.alloc (.cells #[.int .i64 fp, .int .i64 fx, .int .i64 fz] 24)) = w8 at *
    clear hg13
    refine (C5.out _).mono ?_; rintro e w9 ⟨rfl, hb9⟩
    have S5 := Lib.hid (S4.out.call hb9)
    clear hb9 S4 C5
    obtain ⟨⟨a0, a1, a2⟩, -⟩ := (S5.out.at 0 rfl).c3
    go_wp2_with fail
    clear a0 a1 a2
    refine (C6.out _).mono ?_; rintro e w10 ⟨rfl, hb10⟩
    have S6 := Lib.hid (S5.out.call hb10)
    clear hb10 S5 C6
    obtain ⟨⟨a0, a1, a2⟩, -⟩ := (S6.out.at 0 rfl).c3
    obtain ⟨⟨b0, b1, b2⟩, -⟩ := (S6.out.at 1 rfl).c3
    obtain ⟨⟨d0, d1, d2⟩, -⟩ := (S6.out.at 2 rfl).c3
    go_wp2_with fail
    clear a0 a1 a2 b0 b1 b2 d0 d1 d2
    refine (C7.out _).mono ?_; rintro e w11 ⟨rfl, hb11⟩
    have S7 := Lib.hid (S6.out.call hb11)
    clear hb11 S6 C7
    cases q with
    | false =>
      go_wp2_with fail
      go_ret
      exact ⟨rfl, S7.out.bel⟩
    | true =>
      obtain ⟨qa, qb⟩ : pauB (n : Int) ⟨p, x, z⟩ = true ∧ pauB (n : Int) ⟨p2, x2, z2⟩ = true := by have := HQ.out; simpa using this.symm
      have C4 := Lib.hid (fun W => C4.out W qa qb)
      have HM := Lib.hid (show (⟨ma, mb, mc⟩ : E3) = (mulN (tn ⟨p, x, z⟩) (tn ⟨p2, x2, z2⟩)).e from by have := HMR.out; simpa using this)
      have hcm := HCM.out qa qb
      have NA := Lib.hid (PNn.of qa)
      have NB := Lib.hid (PNn.of qb)
      have EA := Lib.hid (pauB_nat qa).1
      have EB := Lib.hid (pauB_nat qb).1
      have QA := Lib.hid qa
      have QB := Lib.hid qb
      generalize commN (tn ⟨p, x, z⟩) (tn ⟨p2, x2, z2⟩) = cm at *
      clear HQ HMR HCM HA HBB qa qb
      generalize tn ⟨p, x, z⟩ = ta at *
      generalize tn ⟨p2, x2, z2⟩ = tb at *
      have HCM := Lib.hid hcm
      clear hcm
      obtain ⟨⟨a0, a1, a2⟩, -⟩ := (S7.out.at 4 rfl).c3
      obtain ⟨⟨b0, b1, b2⟩, -⟩ := (S7.out.at 3 rfl).c3
      go_wp2_with fail
      clear a0 a1 a2 b0 b1 b2
      refine (C3.out _).mono ?_; rintro e w12 ⟨rfl, hb12⟩
      obtain ⟨g18, hg18⟩ : ∃ g, w12.heap.size = g := ⟨_, rfl⟩
      have S8 := Lib.hid ((S7.out.call hb12).push3 ra rb rc hg18)
      clear hb12 S7 C3
      obtain ⟨⟨a0, a1, a2⟩, -⟩ := (S8.out.at 5 rfl).c3
      obtain ⟨⟨b0, b1, b2⟩, -⟩ := (S8.out.at 4 rfl).c3
      go_wp2_with fail
      clear a0 a1 a2 b0 b1 b2
      generalize (w12.alloc (.cells #[.int .i64 ra, .int .i64 rb, .int .i64 rc] 24)) = w13 at *
      clear hg18
      refine (C4.out _).mono ?_; rintro e w14 ⟨rfl, hb14⟩
      have S9 := Lib.hid (S8.out.call hb14)
      clear hb14 S8 C4
      have hcut : cm = ((ra == ma) && ((rb == mb) && (rc == mc))) := by
        rw [← HCM.out, Bool.eq_iff_iff]
        simp
      have hcs : (cm = true ∧ ma = ra ∧ mb = rb ∧ mc = rc) ∨ (cm = false ∧ ¬ ra = ma) ∨ (cm = false ∧ ma = ra ∧ ¬ rb = mb) ∨ (cm = false ∧ ma = ra ∧ mb = rb ∧ ¬ rc = mc) := by
        rw [hcut]
        by_cases e1 : ra = ma
        · by_cases e2 : rb = mb
          · by_cases e3 : rc = mc
            · exact .inl ⟨by simp [e1, e2, e3], e1.symm, e2.symm, e3.symm⟩
            · exact .inr (.inr (.inr ⟨by simp [e3], e1.symm, e2.symm, e3⟩))
          · exact .inr (.inr (.inl ⟨by simp [e2], e1.symm, e2⟩))
        · exact .inr (.inl ⟨by simp [e1], e1⟩)
      clear hcut HCM
      have C8 := Lib.hid (fun W (h3 : n ≤ 3) => impl_PauliMatrix_ok n ta W hn1 (by omega) (by rw [← EA.out]; exact QA.out) (NA.out.ok (by omega)))
      have C9 := Lib.hid (fun W (h3 : n ≤ 3) => impl_PauliMatrix_ok n tb W hn1 (by omega) (by rw [← EB.out]; exact QB.out) (NB.out.ok (by omega)))
      have NM := Lib.hid (mulN_n NA.out NB.out)
      have C10 := Lib.hid (fun W (h3 : n ≤ 3) => impl_PauliMatrix_ok n (mulN ta tb) W hn1 (by omega) (pauB_of NM.out hn1 (by omega)) (NM.out.ok (by omega)))
      have ea := EA.out; have eb := EB.out; have em := HM.out
      unfold PN.e at ea eb em
      injection ea with p1 p2 p3
      injection eb with q1 q2 q3
      injection em with r1 r2 r3
      rw [← p1, ← p2, ← p3] at C8
      rw [← q1, ← q2, ← q3] at C9
      rw [← r1, ← r2, ← r3] at C10
      have HS := Lib.hid (fun h3 : n ≤ 3 => pauli_sums n ta tb h3 NA.out NB.out)
      have HK := Lib.hid (fun h3 : n ≤ 3 => prod_cells n ta tb h3 NA.out NB.out)
      have K1 := Lib.hid (cells_ok n ta NA.out.p (2 ^ n) (2 ^ n * 2 ^ n))
      have K2 := Lib.hid (cells_ok n tb NB.out.p (2 ^ n) (2 ^ n * 2 ^ n))
      have HD := Lib.hid (dim_pow (n := n) (by omega))
      have hd := HD.out.le.2
      clear p1 p2 p3 q1 q2 q3 r1 r2 r3 NA NB EA EB HM QA QB NM C4
      obtain ⟨d, hdd⟩ : ∃ d, d = 2 ^ n := ⟨_, rfl⟩
      rw [← hdd] at C8 C9 C10 HS HK K1 K2 HD hd
      clear hdd
      generalize (fun i j k => cod (mulU (cellU n ta i k n) (cellU n tb k j n))) = FP at *
      obtain ⟨FS, hFS⟩ : ∃ FS : Nat → Nat → Nat → Dy, FS = fun i j k => cod (sumU n ta tb i j k) := ⟨_, rfl⟩
      rw [← hFS] at HS
      rw [show (fun i j => cod (sumU n ta tb i j d)) = (fun i j => FS i j d) from by rw [hFS]] at HK
      clear hFS
      generalize (fun i j => cod (cellU n ta i j n)) = F1 at *
      generalize (fun i j => cod (cellU n tb i j n)) = F2 at *
      generalize (fun i j => cod (cellU n (mulN ta tb) i j n)) = F3 at *
      rcases hcs with ⟨rfl, rfl, rfl, rfl⟩ | ⟨rfl, e1⟩ | ⟨rfl, rfl, e1⟩ | ⟨rfl, rfl, rfl, e1⟩
      all_goals
        obtain ⟨⟨a0, a1, a2⟩, -⟩ := (S9.out.at 0 rfl).c3
        obtain ⟨⟨b0, b1, b2⟩, -⟩ := (S9.out.at 3 rfl).c3
        by_cases h4 : n = 4
        · subst h4
          clear C8 C9 C10 HS HK K1 K2 HD hd
          go_wp2_with fail
          go_ret
          exact ⟨rfl, S9.out.bel⟩
        · have h3 : n ≤ 3 := by omega
          have i3 : ¬ (3 : Int) < (n : Int) := by omega
          obtain ⟨⟨d0, d1, d2⟩, -⟩ := (S9.out.at 5 rfl).c3
          go_wp2_with fail
          clear a0 a1 a2 b0 b1 b2 d0 d1 d2
          refine (C8.out _ h3).mono ?_; rintro e w15 ⟨ax, cx, rfl, hx, hb15⟩
          have HX := Lib.hid hx
          obtain ⟨g22, hg22⟩ : ∃ g, w15.heap.size = g := ⟨_, rfl⟩
          have S10 := Lib.hid ((S9.out.call hb15).pushM (d : Int) (d : Int) (.slice ax (d * d) cx) hg22)
          have V1 := Lib.hid (RdM.call HX.out (show Below w15.heap.size w15 (w15.alloc (.cells #[.int .i64 (d : Int), .int .i64 (d : Int), .slice ax (d * d) cx] 38)) from (by repeat (first | exact Below.refl _ _ | assumption | refine Below.drew ?_ | refine below_drewN ?_ _ | refine Below.alloc ?_ (by first | omega | (simp <;> omega)) _ | refine Below.setCell ?_ (by first | omega | (simp <;> omega)) _ | refine Below.trans ?_ (Below.mono (by assumption) (by first | omega | (simp <;> omega)))))))
          clear hb15 hx HX
          obtain ⟨⟨d0, d1, d2⟩, -⟩ := (S10.out.at 5 rfl).c3
          go_wp2_with fail
          clear d0 d1 d2
          generalize (w15.alloc (.cells #[.int .i64 (d : Int), .int .i64 (d : Int), .slice ax (d * d) cx] 38)) = w16 at *
          clear hg22
          refine (C9.out _ h3).mono ?_; rintro e w17 ⟨ay, cy, rfl, hy, hb17⟩
          replace V1 := Lib.hid (RdM.call V1.out hb17)
          have HY := Lib.hid hy
          obtain ⟨g24, hg24⟩ : ∃ g, w17.heap.size = g := ⟨_, rfl⟩
          have S11 := Lib.hid ((S10.out.call hb17).pushM (d : Int) (d : Int) (.slice ay (d * d) cy) hg24)
          have hal := (show Below w17.heap.size w17 (w17.alloc (.cells #[.int .i64 (d : Int), .int .i64 (d : Int), .slice ay (d * d) cy] 38)) from (by repeat (first | exact Below.refl _ _ | assumption | refine Below.drew ?_ | refine below_drewN ?_ _ | refine Below.alloc ?_ (by first | omega | (simp <;> omega)) _ | refine Below.setCell ?_ (by first | omega | (simp <;> omega)) _ | refine Below.trans ?_ (Below.mono (by assumption) (by first | omega | (simp <;> omega))))))
          have V2 := Lib.hid (RdM.call HY.out hal)
          replace V1 := Lib.hid (RdM.call V1.out hal)
          clear hb17 hy HY hal S10
          obtain ⟨⟨d0, d1, d2⟩, -⟩ := (S11.out.at 5 rfl).c3
          go_wp2_with fail
          clear d0 d1 d2
          generalize (w17.alloc (.cells #[.int .i64 (d : Int), .int .i64 (d : Int), .slice ay (d * d) cy] 38)) = w18 at *
          clear hg24
          refine (C10.out _ h3).mono ?_; rintro e w19 ⟨az, cz, rfl, hz, hb19⟩
          replace V1 := Lib.hid (RdM.call V1.out hb19)
          replace V2 := Lib.hid (RdM.call V2.out hb19)
          have HZ2 := Lib.hid hz
          obtain ⟨g26, hg26⟩ : ∃ g, w19.heap.size = g := ⟨_, rfl⟩
          have S12 := Lib.hid ((S11.out.call hb19).pushM (d : Int) (d : Int) (.slice az (d * d) cz) hg26)
          have hal := (show Below w19.heap.size w19 (w19.alloc (.cells #[.int .i64 (d : Int), .int .i64 (d : Int), .slice az (d * d) cz] 38)) from (by repeat (first | exact Below.refl _ _ | assumption | refine Below.drew ?_ | refine below_drewN ?_ _ | refine Below.alloc ?_ (by first | omega | (simp <;> omega)) _ | refine Below.setCell ?_ (by first | omega | (simp <;> omega)) _ | refine Below.trans ?_ (Below.mono (by assumption) (by first | omega | (simp <;> omega))))))
          have V3 := Lib.hid (RdM.call HZ2.out hal)
          replace V1 := Lib.hid (RdM.call V1.out hal)
          replace V2 := Lib.hid (RdM.call V2.out hal)
          clear hb19 hz HZ2 hal S11
          obtain ⟨⟨d0, d1, d2⟩, -⟩ := (S12.out.at 1 rfl).c3
          obtain ⟨⟨f0, f1, f2⟩, -⟩ := (S12.out.at 2 rfl).c3
          go_wp2_with fail
          clear d0 d1 d2 f0 f1 f2
          generalize (w19.alloc (.cells #[.int .i64 (d : Int), .int .i64 (d : Int), .slice az (d * d) cz] 38)) = w20 at *
          clear hg26
          refine (impl_MulMatrix_ok d d d F1 F2 FP FS _ _ _ _ _ HD.out HD.out HD.out (HS.out h3) V1.out V2.out K1.out K2.out).mono ?_; rintro e w21 ⟨au, cu, rfl, hu, hb21⟩
          replace V3 := Lib.hid (RdM.call V3.out hb21)
          have HU := Lib.hid hu
          obtain ⟨g28, hg28⟩ : ∃ g, w21.heap.size = g := ⟨_, rfl⟩
          have S13 := Lib.hid ((S12.out.call hb21).pushM (d : Int) (d : Int) (.slice au (d * d) cu) hg28)
          have hal := (show Below w21.heap.size w21 (w21.alloc (.cells #[.int .i64 (d : Int), .int .i64 (d : Int), .slice au (d * d) cu] 38)) from (by repeat (first | exact Below.refl _ _ | assumption | refine Below.drew ?_ | refine below_drewN ?_ _ | refine Below.alloc ?_ (by first | omega | (simp <;> omega)) _ | refine Below.setCell ?_ (by first | omega | (simp <;> omega)) _ | refine Below.trans ?_ (Below.mono (by assumption) (by first | omega | (simp <;> omega))))))
          replace V3 := Lib.hid (RdM.call V3.out hal)
          have V4 := Lib.hid (RdM.call HU.out hal)
          clear hb21 hu HU hal S12 V1 V2
          obtain ⟨⟨d0, d1, d2⟩, -⟩ := (S13.out.at 1 rfl).c3
          obtain ⟨⟨f0, f1, f2⟩, -⟩ := (S13.out.at 0 rfl).c3
          go_wp2_with fail
          clear d0 d1 d2 f0 f1 f2
          generalize (w21.alloc (.cells #[.int .i64 (d : Int), .int .i64 (d : Int), .slice au (d * d) cu] 38)) = w22 at *
          clear hg28
          have hV := V4.out
          unfold RdM at hV
          rw [HK.out h3] at hV
          refine (spec_EqualMatrices_ok d d au az (d * d) cu cz (cellsTo d F3 (d * d)) _ (by rw [cellsTo_len]) hV V3.out (by have : d * d ≤ 32 * 32 := Nat.mul_le_mul hd hd; omega)).mono ?_; rintro e w23 ⟨rfl, hb23⟩
          have S14 := Lib.hid (S13.out.call hb23)
          clear hb23 S13
          go_wp2_with fail
          go_ret
          exact ⟨rfl, S14.out.bel⟩
end Go.Proofs.Yteimcfbliigjmaa
