/- The reference's search: the lengths. -/
import Derived.Test.YtjdffjnennodaaaZ48M
import Derived.Test.YtjdffjnennodaaaZ11Brk
import Derived.BigRegion
import Derived.BigQuiet
import Derived.Deep.RegionLaw
import Derived.Deep.DeepCutAuto
namespace Go.Proofs.Ytjdffjnennodaaa
set_option linter.unusedSimpArgs false
set_option linter.unusedVariables false
set_option linter.unnecessarySimpa false
set_option maxRecDepth 200000
open Go.ChangeShapes Go.WideShapes Go.ChangeAt Go.RowKit Go.Maps

theorem far_end {n N : Nat} {Q : List (TT × List Nat)} {t : TT} (h : InvT n N 0 Q) (hn : ¬ ∃ p ∈ Q, p.1 = t) (he : N = Q.length ∨ ∃ p, Q[N]? = some p ∧ 12 ≤ p.2.length) : LWT n t none := by
  refine LW.none_spec (K8 n) h (fun i p hi hN => ?_) hn
  rcases he with rfl | ⟨q, hq, hl⟩
  · have := (List.getElem?_eq_some_iff.1 hi).1; omega
  · rcases Nat.eq_or_lt_of_le hN with e | e
    · subst e; rw [hq] at hi; injection hi with hi; subst hi; exact hl
    · have hc := pair_lt h.sorted hq hi e
      have := len_of_cv (K8 n) (h.mw q (List.mem_of_getElem? hq)).vw (h.mw p (List.mem_of_getElem? hi)).vw (Nat.le_of_lt hc)
      omega
/-- What the search for the lengths leaves. -/
def FPost (n : Nat) (t : TT) (w : World) (e : Ending) (w' : World) : Prop :=
  ∃ (gF N : Nat) (Q : List (TT × List Nat)), e = .returned (.slice (some ⟨gF, 0, none⟩) 1048576 1048576) ∧ FarB w' gF (farV n Q) ∧ w.heap.size ≤ gF ∧ InvT n N 0 Q ∧ (∀ p ∈ Q, p.2.length ≤ 12) ∧ ((∃ p ∈ Q, p.1 = t) ∨ LWT n t none) ∧ Below w.heap.size w w'
theorem FS.start {n gF : Nat} {W w1 w' : World} {v0 v1 q0 q1 : Value} {xs : List Value} (T1 : Bw w1 W.heap.size [.int .i64 (n : Int), v0, v1]) (F1 : FarB w1 gF (fun _ => 0)) (off : W.heap.size < gF) (B1 : Below W.heap.size W w1) (X1 : Tr w1 n (idT2 n) q0 q1) :
    FS n W (w1.alloc (.cells #[.int .i64 (n : Int), q0, q1] 30)) v0 v1 gF (fun _ => 0) (.slice (some ⟨w1.heap.size, 0, none⟩) 1 1) [(q0, q1)] [(idT2 n, [])] := by
  have hl := T1.lt
  have hf := F1.m.lt
  have hb : Below w1.heap.size w1 (w1.alloc (.cells #[.int .i64 (n : Int), q0, q1] 30)) := (by repeat (first | exact Below.refl _ _ | assumption | refine Below.drew ?_ | refine below_drewN ?_ _ | refine Below.alloc ?_ (by first | omega | (simp <;> omega)) _ | refine Below.setCell ?_ (by first | omega | (simp <;> omega)) _ | refine Below.trans ?_ (Below.mono (by assumption) (by first | omega | (simp <;> omega)))))
  refine ⟨Below.alloc B1 (by omega) _, T1.call hb, F1.call hb, off, ?_, ?_, fun e => ?_⟩
  · exact own_newW (us := [.int .i64 (n : Int), q0, q1]) w1 30 rfl (by omega) rfl (by omega)
  · have h : Trs (w1.alloc (.cells #[.int .i64 (n : Int), q0, q1] 30)) n [] [] := ⟨rfl, fun i p m hp _ => by simp at hp⟩
    exact h.add (m := (q0, q1)) (X1.call hb)
  · have e2 : w1.heap.size = gF := by injection e
    omega
theorem far_root {n : Nat} : (fun k => if k = codeT n (idT2 n) then 1 else 0) = farV n [(idT2 n, [])] := by
  funext k
  unfold farV
  by_cases h : k = codeT n (idT2 n)
  · subst h; simp
  · simp [h, List.find?, show (codeT n (idT2 n) == k) = false from by simp; exact fun e => h e.symm]
theorem far_few {Q : List (TT × List Nat)} {x : TT} {wd : List Nat} {j : Nat} (h : ∀ p ∈ Q, p.2.length ≤ 12) (hd : wd.length + 1 ≤ 12) : ∀ p ∈ Q ++ [(x, wd ++ [j])], p.2.length ≤ 12 := by
  intro p hp
  rcases List.mem_append.1 hp with hp | hp
  · exact h p hp
  · simp only [List.mem_singleton] at hp; subst hp; simpa using hd
theorem far_fst {α : Type} {Q : List α} {N : Nat} {x y : α} (h : Q[N]? = some x) : (Q ++ [y])[N]? = some x := by
  rw [List.getElem?_append_left (List.getElem?_eq_some_iff.1 h).1]; exact h
set_option maxHeartbeats 16000000 in
theorem spec_l8Far_any (n : Nat) (h1 : 1 ≤ n) (h2 : n ≤ 2) (t : TT) (ht : SymT n t) (v0 v1 : Value) (w : World) (r0 : RdE w v0 E3.cs 3 (pes t.1)) (r1 : RdE w v1 E3.cs 3 (pes t.2)) :
    Calls Try.prog 28 #[.agg #[.int .i64 (n : Int), v0, v1]] w (FPost n t w) := by
  obtain ⟨i0, hi, hz0, hz1, hz2⟩ := info_parts info_int
  obtain ⟨j0, hj0, hy0, hy1, hy2⟩ := info_parts info_Tableau
  have HT := Lib.hid ht; have R0 := Lib.hid r0; have R1 := Lib.hid r1
  obtain ⟨A, cA, rfl⟩ : ∃ A c, v0 = .slice A n c := by have := r0.form; rw [pes_len, show t.1.length = n from ht.lx] at this; obtain ⟨a, c, h, _⟩ := this; exact ⟨a, c, h⟩
  obtain ⟨A2, cB, rfl⟩ : ∃ A c, v1 = .slice A n c := by have := r1.form; rw [pes_len, show t.2.length = n from ht.lz] at this; obtain ⟨a, c, h, _⟩ := this; exact ⟨a, c, h⟩
  clear ht r0 r1
  obtain ⟨MX, HMX⟩ : ∃ m : Nat, Hid (m = 2 ^ 20 + 1) := ⟨_, (show _ = _ from rfl)⟩
  have T0 := Lib.hid (Bw.new w [.int .i64 (n : Int), .slice A n cA, .slice A2 n cB] 30 rfl)
  go_enter Try.func28, Try.ntmps28
  go_wp2_with (at_make; refine wpList_make_full _ rfl _ _ 52 rfl (w.heap.size + 1) 3 i0 (.int .i64 0) 1 Try.underlying52 hi hz0 hz1 _ _ _ _ 1048576 rfl rfl (by rfl) (by rfl) (by rw [hz2]; omega) (by unfold maxLen; omega) (by simp) ?_; intro w1 hown1 hgr1; have F1 := Lib.hid (show FarB w1 (w.heap.size + 1) (fun _ => 0) from (by have h9 := FarB.new (base := w.heap.size + 1) hown1 (made_zero 1048576); rw [show (w.alloc (.cells #[.int .i64 (n : Int), .slice A n cA, .slice A2 n cB] 30)).heap.size = w.heap.size + 1 from by simp] at h9; exact h9)); have T1 := Lib.hid (T0.out.kept hgr1 (by simp)); have B1 := Lib.hid (show Below w.heap.size w w1 from (Below.alloc (Below.refl _ _) (Nat.le_refl _) _).grown hgr1 (by simp) (fun b hb => by cases hb)); obtain ⟨⟨t0, t1, t2⟩, -⟩ := T1.out.c3; clear hown1 hgr1 T0)
  clear t0 t1 t2
  refine (rootS_tr h1 h2 _).mono ?_; rintro e w2 ⟨q0, q1, rfl, hX, hb2⟩
  obtain ⟨aq0, cq0, rfl⟩ := own_form hX.rx
  obtain ⟨aq1, cq1, rfl⟩ := own_form hX.rz
  have K2 := Lib.hid (FS.start (w' := w2) (xs := []) (T1.out.call hb2) (F1.out.call hb2) (by omega) (Below.trans B1.out (hb2.mono B1.out.size)) hX)
  have X2 := Lib.hid (hX.call (show Below w2.heap.size w2 (w2.alloc (.cells #[.int .i64 (n : Int), .slice aq0 n cq0, .slice aq1 n cq1] 30)) from (by repeat (first | exact Below.refl _ _ | assumption | refine Below.drew ?_ | refine below_drewN ?_ _ | refine Below.alloc ?_ (by first | omega | (simp <;> omega)) _ | refine Below.setCell ?_ (by first | omega | (simp <;> omega)) _ | refine Below.trans ?_ (Below.mono (by assumption) (by first | omega | (simp <;> omega)))))))
  clear T1 F1 B1 hX hb2
  go_wp2_with fail
  refine (spec_l8Code_any n h1 h2 _ (id_sym h1 h2) _ _ _ X2.out).mono ?_; rintro e w3 ⟨rfl, hb3⟩
  replace K2 := Lib.hid (K2.out.call hb3)
  clear X2 hb3
  have hcl := code_lt h2 (id_sym h1 h2)
  have f0 := K2.out.far.m.cs _ hcl
  have f1 := K2.out.far.m.fz _ hcl
  have i1 : (codeT n (idT2 n) : Int) < 1048576 := by omega
  have K3 := Lib.hid (K2.out.setF hcl 1)
  have K4 := Lib.hid (show FS n w (w3.setCell ⟨w.heap.size + 1, codeT n (idT2 n), none⟩ (.int .i64 1)) (.slice A n cA) (.slice A2 n cB) (w.heap.size + 1) (farV n [(idT2 n, [])]) (.slice (some ⟨w2.heap.size, 0, none⟩) 1 1) [(.slice aq0 n cq0, .slice aq1 n cq1)] [(idT2 n, [])] from by rw [← far_root]; exact K3.out)
  go_wp2_with fail
  obtain ⟨gF, hgF⟩ : ∃ g, w.heap.size + 1 = g := ⟨_, rfl⟩
  have GF : w.heap.size ≤ gF := by omega
  rw [hgF] at K4 ⊢
  clear K2 K3 f0 f1 i1 hcl
  generalize (w3.setCell ⟨gF, codeT n (idT2 n), none⟩ (.int .i64 1)) = w4 at *
  generalize hSZ : (1048576 : Nat) = SZ
  have HSZ := Lib.hid hSZ
  clear hSZ
  go_loopw [4, 5] (fun s4 s5 wr => ∃ (N : Nat) (Q : List (TT × List Nat)) (M : List VP), s5 = .int .i64 (N : Int) ∧ N ≤ Q.length ∧ Hid (InvT n N 0 Q) ∧ Hid (∀ p ∈ Q, p.2.length ≤ 12) ∧ Hid (FS n w wr (.slice A n cA) (.slice A2 n cB) gF (farV n Q) s4 M Q)) (fun _ s5 _ => MX - (intOf s5).toNat)
  case atStart => exact ⟨0, [(idT2 n, [])], _, rfl, Nat.zero_le _, (show InvT _ _ _ _ from InvJ.start), (show ∀ p ∈ _, _ from by simp), K4⟩
  case round =>
    clear K4 hgF
    obtain ⟨N, Q, M, rfl, hN, HI, HL, HK⟩ := hrel
    have hQ := InvT.few h1 h2 HI.out
    obtain ⟨aV, cV, rfl⟩ := own_form HK.out.lst
    obtain ⟨⟨t0, t1, t2⟩, -⟩ := HK.out.t1.c3
    have hct := code_lt h2 HT.out
    have RT0 := Lib.hid (RdE.below R0.out HK.out.bel rfl); have RT1 := Lib.hid (RdE.below R1.out HK.out.bel rfl)
    by_cases hlt : N < Q.length
    · have i1 : (N : Int) < (Q.length : Int) := by omega
      by_cases hin : ∃ p ∈ Q, p.1 = t
      · have hf : farV n Q (codeT n t) ≠ 0 := fun h => (far_zero h1 h2 HI.out HT.out).1 h hin
        go_wp2_with fail
        refine (spec_l8Code_rd n h1 h2 t HT.out _ _ _ RT0.out RT1.out).mono ?_; rintro e w5 ⟨rfl, hb5⟩
        have K5 := Lib.hid (HK.out.call hb5)
        clear HK hb5 t0 t1 t2
        have f0 := K5.out.far.m.cs _ hct
        have i2 : (codeT n t : Int) < (SZ : Int) := by have := HSZ.out; omega
        have i3 : ¬ ((farV n Q (codeT n t) : Nat) : Int) = 0 := by omega
        generalize hft : farV n Q (codeT n t) = ft at *
        clear hft
        have KH := Lib.hid hct
        have HIN := Lib.hid hin
        have GFH := Lib.hid GF
        clear hct hf hQ hN RT0 RT1 hlt GF hin h1 h2 i1
        generalize ((ft : Nat) : Int) = fi at *
        go_wp2_with fail
        exact bodyPost_ret (v := .slice (some ⟨gF, 0, none⟩) SZ SZ) (by simp [results, Try.results28, go_sem]) rfl ⟨gF, N, Q, by rw [HSZ.out], K5.out.far, GFH.out, HI.out, HL.out, .inl HIN.out, K5.out.bel⟩
      · have hf : farV n Q (codeT n t) = 0 := far_out h1 h2 HI.out HT.out hin
        obtain ⟨x, wd, hx⟩ : ∃ x wd, Q[N]? = some (x, wd) := ⟨Q[N].1, Q[N].2, by simp [hlt]⟩
        have hmem := List.mem_of_getElem? hx
        have HX := Lib.hid (InvT.sym h1 h2 HI.out _ hmem)
        have HFX := Lib.hid (far_in h1 h2 HI.out hmem)
        have HCX := Lib.hid (code_lt h2 HX.out)
        obtain ⟨⟨mx, mz⟩, hm⟩ : ∃ m, M[N]? = some m := by
          have := HK.out.trs.len
          exact ⟨M[N], by simp [show N < M.length by omega]⟩
        have HNI := Lib.hid hin
        clear hmem hin
        go_wp2_with fail
        refine (spec_l8Code_rd n h1 h2 t HT.out _ _ _ RT0.out RT1.out).mono ?_; rintro e w5 ⟨rfl, hb5⟩
        have K5 := Lib.hid (HK.out.call hb5)
        clear HK hb5 t0 t1 t2
        have f0 := K5.out.far.m.cs _ hct
        rw [hf] at f0
        have i2 : (codeT n t : Int) < (SZ : Int) := by have := HSZ.out; omega
        have TX := Lib.hid (K5.out.trs.get N _ _ hx hm)
        obtain ⟨gV, cp, eV, hgV, hgV2, c0, c1, c2⟩ := tab_at K5.out.lst K5.out.trs.len hm
        injection eV with eV _ eC
        subst eV; subst eC
        obtain ⟨amx, cmx, ex⟩ := own_form TX.out.rx
        obtain ⟨amz, cmz, ez⟩ := own_form TX.out.rz
        dsimp only at ex ez c1 c2
        subst ex; subst ez
        have HCT := Lib.hid hct
        have HHX := Lib.hid hx; have HHM := Lib.hid hm
        clear hct hf hx hm
        go_wp2_with fail
        refine (spec_l8Code_any n h1 h2 x HX.out _ _ _ TX.out).mono ?_; rintro e w6 ⟨rfl, hb6⟩
        have K6 := Lib.hid (K5.out.call hb6)
        replace TX := Lib.hid (TX.out.call hb6)
        clear K5 hb6 c0 c1 c2 f0 hgV hgV2
        have f1 := K6.out.far.m.cs _ HCX.out
        rw [HFX.out] at f1
        have i3 : (codeT n x : Int) < (SZ : Int) := by have := HSZ.out; have := HCX.out; omega
        by_cases hd : wd.length + 1 ≤ 12
        · have i4 : ((wd.length + 1 : Nat) : Int) ≤ 12 := by omega
          have HD := Lib.hid hd; clear hd
          obtain ⟨⟨t0, t1, t2⟩, -⟩ := K6.out.t1.c3
          go_wp2_with fail
          clear t0 t1 t2 f1 i2 i3 i4
          refine (spec_l8Words_any n h1 h2 _).mono ?_; rintro e w7 ⟨aL, cL, rfl, hW, hb7⟩
          have K7 := Lib.hid (K6.out.call hb7)
          have T7 := Lib.hid (TX.out.call hb7)
          have W7 := Lib.hid (own_le hW (base' := 0) (Nat.zero_le _))
          clear K6 TX hW hb7 RT0 RT1
          go_wp2_with fail
          go_loopw [4, 49] (fun s4 s49 wy => ∃ (j : Nat) (Q2 : List (TT × List Nat)) (M2 : List VP), s49 = .int .i64 (j : Int) ∧ j ≤ KK n ∧ Hid (InvT n N j Q2) ∧ Hid (∀ p ∈ Q2, p.2.length ≤ 12) ∧ Hid (Q2[N]? = some (x, wd)) ∧ Hid (M2[N]? = some (.slice amx n cmx, .slice amz n cmz)) ∧ Hid (FS n w wy (.slice A n cA) (.slice A2 n cB) gF (farV n Q2) s4 M2 Q2) ∧ Hid (wy.ownsRow 0 57 3 (.slice aL (KK n) cL) (KK n) ((gls n).flatMap E3.cs))) (fun _ s49 _ => KK n - (intOf s49).toNat)
          case atStart => exact ⟨0, Q, M, rfl, Nat.zero_le _, HI, HL, HHX, HHM, K7, W7⟩
          case round =>
            clear K7 T7 W7 HI HL HHX HHM HNI HFX
            obtain ⟨j, Q2, M2, rfl, hj, HI, HL, HHX, HHM, HK, HW⟩ := hrel
            have hK6 := KK_le n
            have hQ2 := InvT.few h1 h2 HI.out
            have hN2 : N < Q2.length := (List.getElem?_eq_some_iff.1 HHX.out).1
            by_cases hlt3 : j < KK n
            · have i3 : (j : Int) < (KK n : Int) := by omega
              obtain ⟨gL, k9, a9, b9, hL9, rfl, gL2, e0, e1, e2⟩ := letter_at HW.out hlt3
              have HL9 := Lib.hid hL9
              clear hL9
              go_wp2_with fail
              have hbA := (show Below wr.heap.size wr (wr.alloc (.cells #[.int .i64 (k9 : Int), .int .i64 (a9 : Int), .int .i64 (b9 : Int)] 57)) from (by repeat (first | exact Below.refl _ _ | assumption | refine Below.drew ?_ | refine below_drewN ?_ _ | refine Below.alloc ?_ (by first | omega | (simp <;> omega)) _ | refine Below.setCell ?_ (by first | omega | (simp <;> omega)) _ | refine Below.trans ?_ (Below.mono (by assumption) (by first | omega | (simp <;> omega))))))
              have K1 := Lib.hid (HK.out.call hbA)
              have W1 := Lib.hid (own_below HW.out hbA rfl)
              have Y7 := Lib.hid (Bw.new wr [.int .i64 (k9 : Int), .int .i64 (a9 : Int), .int .i64 (b9 : Int)] 57 rfl)
              have G7 : u4.ownBlock ≠ some wr.heap.size := fun e => by have := (HK.out.lst.lt _ e).2; omega
              have G7F : wr.heap.size ≠ gF := by have := HK.out.far.m.lt; omega
              obtain ⟨g7, hg⟩ : ∃ g, wr.heap.size = g := ⟨_, rfl⟩
              rw [hg] at Y7 G7 G7F ⊢
              generalize (wr.alloc (.cells #[.int .i64 (k9 : Int), .int .i64 (a9 : Int), .int .i64 (b9 : Int)] 57)) = wz at *
              clear HK HW e0 e1 e2 gL2 hbA hg
              obtain ⟨gQ, cQ, eV, hgV, hgV2, c0, c1, c2⟩ := tab_at K1.out.lst K1.out.trs.len HHM.out
              dsimp only at c1 c2
              subst eV
              have TX := Lib.hid (K1.out.trs.get N _ _ HHX.out HHM.out)
              have A0 := Lib.hid c0; have A1 := Lib.hid c1; have A2' := Lib.hid c2
              clear c0 c1 c2
              have i5 : (N : Int) < (Q2.length : Int) := by omega
              go_cut [8] (fun s8 wx => ∃ (g8 : Nat) (p0 p1 : Value), s8 = .pointer (some ⟨g8, 0, none⟩) ∧ wz.heap.size ≤ g8 ∧ Hid (Tr wx n (stT n x j) p0 p1) ∧ Hid (Bt wx g8 30 [.int .i64 (n : Int), p0, p1]) ∧ Hid (Below wz.heap.size wz wx))
              case first =>
                have CG := Lib.hid (gateS_tr h1 h2 hlt3 HL9.out)
                have XB := Lib.hid (show Below wz.heap.size wz wz.drew from (by repeat (first | exact Below.refl _ _ | assumption | refine Below.drew ?_ | refine below_drewN ?_ _ | refine Below.alloc ?_ (by first | omega | (simp <;> omega)) _ | refine Below.setCell ?_ (by first | omega | (simp <;> omega)) _ | refine Below.trans ?_ (Below.mono (by assumption) (by first | omega | (simp <;> omega))))))
                have a0 := (XB.out.cell hgV2).trans A0.out; have a1 := (XB.out.cell hgV2).trans A1.out; have a2 := (XB.out.cell hgV2).trans A2'.out; obtain ⟨⟨b0, b1, b2⟩, -⟩ := (K1.out.t1.callB XB.out K1.out.t1.lt).c3; obtain ⟨⟨d0, d1, d2⟩, -⟩ := (Y7.out.callB XB.out Y7.out.lt).c3
                refine AnyB.begin (S := (fun w' => w'.cell? ⟨gQ, N * 3, none⟩ = some (.int .i64 (n : Int)) ∧ w'.cell? ⟨gQ, N * 3 + 1, none⟩ = some (.slice amx n cmx) ∧ w'.cell? ⟨gQ, N * 3 + 2, none⟩ = some (.slice amz n cmz) ∧ w'.cell? ⟨w.heap.size, 0, none⟩ = some (.int .i64 (n : Int)) ∧ w'.cell? ⟨g7, 0, none⟩ = some (.int .i64 (k9 : Int)) ∧ w'.cell? ⟨g7, 1, none⟩ = some (.int .i64 (a9 : Int)) ∧ w'.cell? ⟨g7, 2, none⟩ = some (.int .i64 (b9 : Int)))) [] (by kernel_rfl) ?_ (fun hHeld0 => ?_)
                · ((try dsimp only); (exact ⟨a0, a1, a2, b0, d0, d1, d2⟩))
                refine AnyB.takeQ (i := 0) (oi := _) (v := ?_) (by simp only [List.getElem?_toArray, List.getElem?_cons_zero, List.getElem?_cons_succ]; rfl) (by kernel_rfl) (by kernel_rfl) (by kernel_rfl) (by intro _ _ _ h; exact h) (Or.inl ⟨by rfl, ?_⟩) ?_
                rotate_left
                · (intro w hSw; (try dsimp only at hSw); go_simp; (try (with_reducible rfl)))
                try simp only [Act.put, List.setIfInBounds_toArray, List.set_cons_zero, List.set_cons_succ]
                refine AnyB.takeQ (i := 1) (oi := _) (v := ?_) (by simp only [List.getElem?_toArray, List.getElem?_cons_zero, List.getElem?_cons_succ]; rfl) (by kernel_rfl) (by kernel_rfl) (by kernel_rfl) (by intro _ _ _ h; exact h) (Or.inl ⟨by rfl, ?_⟩) ?_
                rotate_left
                · (intro w hSw; (try dsimp only at hSw); go_simp; (try (with_reducible rfl)))
                try simp only [Act.put, List.setIfInBounds_toArray, List.set_cons_zero, List.set_cons_succ]
                refine AnyB.takeQ (i := 2) (oi := _) (v := ?_) (by simp only [List.getElem?_toArray, List.getElem?_cons_zero, List.getElem?_cons_succ]; rfl) (by kernel_rfl) (by kernel_rfl) (by kernel_rfl) (by intro _ _ _ h; exact h) (Or.inl ⟨by rfl, ?_⟩) ?_
                rotate_left
                · (intro w hSw; (try dsimp only at hSw); go_simp; (try (with_reducible rfl)))
                try simp only [Act.put, List.setIfInBounds_toArray, List.set_cons_zero, List.set_cons_succ]
                refine AnyB.take (i := 3) (oi := _) (v := ?_) (by simp only [List.getElem?_toArray, List.getElem?_cons_zero, List.getElem?_cons_succ]; rfl) (by kernel_rfl) (by kernel_rfl) (by kernel_rfl) (by kernel_rfl) (by kernel_rfl) (by intro _ _ _ h; exact h) (Or.inl ⟨by rfl, ?_⟩) (by assumption) ?_
                rotate_left
                · (intro w hSw; (try dsimp only at hSw); go_simp; (try (with_reducible rfl)))
                try simp only [Act.put, List.setIfInBounds_toArray, List.set_cons_zero, List.set_cons_succ]
                refine AnyB.takeQ (i := 4) (oi := _) (v := ?_) (by simp only [List.getElem?_toArray, List.getElem?_cons_zero, List.getElem?_cons_succ]; rfl) (by kernel_rfl) (by kernel_rfl) (by kernel_rfl) (by intro _ _ _ h; exact h) (Or.inl ⟨by rfl, ?_⟩) ?_
                rotate_left
                · (intro w hSw; (try dsimp only at hSw); go_simp; (try (with_reducible rfl)))
                try simp only [Act.put, List.setIfInBounds_toArray, List.set_cons_zero, List.set_cons_succ]
                refine AnyB.take (i := 5) (oi := _) (v := ?_) (by simp only [List.getElem?_toArray, List.getElem?_cons_zero, List.getElem?_cons_succ]; rfl) (by kernel_rfl) (by kernel_rfl) (by kernel_rfl) (by kernel_rfl) (by kernel_rfl) (by intro _ _ _ h; exact h) (Or.inl ⟨by rfl, ?_⟩) (by assumption) ?_
                rotate_left
                · (intro w hSw; (try dsimp only at hSw); go_simp; (try (with_reducible rfl)))
                try simp only [Act.put, List.setIfInBounds_toArray, List.set_cons_zero, List.set_cons_succ]
                refine AnyB.take (i := 6) (oi := _) (v := ?_) (by simp only [List.getElem?_toArray, List.getElem?_cons_zero, List.getElem?_cons_succ]; rfl) (by kernel_rfl) (by kernel_rfl) (by kernel_rfl) (by kernel_rfl) (by kernel_rfl) (by intro _ _ _ h; exact h) (Or.inl ⟨by rfl, ?_⟩) (by assumption) ?_
                rotate_left
                · (intro w hSw; (try dsimp only at hSw); go_simp; (try (with_reducible rfl)))
                try simp only [Act.put, List.setIfInBounds_toArray, List.set_cons_zero, List.set_cons_succ]
                refine AnyB.each (rs := [7, 9]) (by kernel_rfl) (by simp) ?_
                refine EachB.cons rfl (fun K hK hB => ?_) ?_
                · skip
                  (go_simp; go_at_call 33; refine (CG.out _).mono ?_; rintro e xA ⟨u0, u1, rfl, hu, hxA⟩; replace XB := Lib.hid (Below.trans XB.out (hxA.mono XB.out.size)); have TG := Lib.hid hu; (try (replace BT := Lib.hid (BT.out.call hxA))); clear hu hxA; clear a0 a1 a2 b0 b1 b2 d0 d1 d2; have a0 := (XB.out.cell hgV2).trans A0.out; have a1 := (XB.out.cell hgV2).trans A1.out; have a2 := (XB.out.cell hgV2).trans A2'.out; obtain ⟨⟨b0, b1, b2⟩, -⟩ := (K1.out.t1.callB XB.out K1.out.t1.lt).c3; obtain ⟨⟨d0, d1, d2⟩, -⟩ := (Y7.out.callB XB.out Y7.out.lt).c3; dsimp only)
                  refine hK.out _ _ ?_ (fun hHeld1 => ?_)
                  · ((try dsimp only); (exact ⟨a0, a1, a2, b0, d0, d1, d2⟩))
                  clear hB hK K hHeld0
                  refine AnyB.each (rs := [8, 9]) (by kernel_rfl) (by simp) ?_
                  refine EachB.cons rfl (fun K hK hB => ?_) ?_
                  · skip
                    (go_simp; go_at_call 31; refine (stepS_tr h1 h2 hlt3 HX.out (TX.out.call XB.out) TG.out).mono ?_; rintro e xC ⟨p0, p1, rfl, hu, hxC⟩; replace XB := Lib.hid (Below.trans XB.out (hxC.mono XB.out.size)); obtain ⟨ap0, cp0, rfl⟩ := own_form hu.rx; obtain ⟨ap1, cp1, rfl⟩ := own_form hu.rz; have TC := Lib.hid hu; (try (replace BT := Lib.hid (BT.out.call hxC))); clear hu hxC TG; clear a0 a1 a2 b0 b1 b2 d0 d1 d2; have a0 := (XB.out.cell hgV2).trans A0.out; have a1 := (XB.out.cell hgV2).trans A1.out; have a2 := (XB.out.cell hgV2).trans A2'.out; obtain ⟨⟨b0, b1, b2⟩, -⟩ := (K1.out.t1.callB XB.out K1.out.t1.lt).c3; obtain ⟨⟨d0, d1, d2⟩, -⟩ := (Y7.out.callB XB.out Y7.out.lt).c3; dsimp only)
                    refine hK.out _ _ ?_ (fun hHeld2 => ?_)
                    · ((try dsimp only); (exact ⟨a0, a1, a2, b0, d0, d1, d2⟩))
                    clear hB hK K hHeld1
                    refine AnyB.each (rs := [9]) (by kernel_rfl) (by simp) ?_
                    refine EachB.cons rfl (fun K hK hB => ?_) ?_
                    · skip
                      (go_simp; (first | (obtain ⟨g8, hg8⟩ : ∃ g, xC.heap.size = g := ⟨_, rfl⟩; have hbC := (show Below xC.heap.size xC (xC.alloc (.cells #[.int .i64 0, .slice none 0 0, .slice none 0 0] 30)) from (by repeat (first | exact Below.refl _ _ | assumption | refine Below.drew ?_ | refine below_drewN ?_ _ | refine Below.alloc ?_ (by first | omega | (simp <;> omega)) _ | refine Below.setCell ?_ (by first | omega | (simp <;> omega)) _ | refine Below.trans ?_ (Below.mono (by assumption) (by first | omega | (simp <;> omega)))))); have G8 : wz.heap.size ≤ g8 := (by have := XB.out.size; omega); replace XB := Lib.hid (Below.trans XB.out (hbC.mono XB.out.size)); replace TC := Lib.hid (TC.out.call hbC); have BT := Lib.hid (Bt.new xC [.int .i64 0, .slice none 0 0, .slice none 0 0] 30 hg8); rw [hg8]; generalize xC.alloc (.cells #[.int .i64 0, .slice none 0 0, .slice none 0 0] 30) = xD at *; clear hg8 hbC) | (obtain ⟨g8, hg8⟩ : ∃ g, xA.heap.size = g := ⟨_, rfl⟩; have hbC := (show Below xA.heap.size xA (xA.alloc (.cells #[.int .i64 0, .slice none 0 0, .slice none 0 0] 30)) from (by repeat (first | exact Below.refl _ _ | assumption | refine Below.drew ?_ | refine below_drewN ?_ _ | refine Below.alloc ?_ (by first | omega | (simp <;> omega)) _ | refine Below.setCell ?_ (by first | omega | (simp <;> omega)) _ | refine Below.trans ?_ (Below.mono (by assumption) (by first | omega | (simp <;> omega)))))); have G8 : wz.heap.size ≤ g8 := (by have := XB.out.size; omega); replace XB := Lib.hid (Below.trans XB.out (hbC.mono XB.out.size)); replace TG := Lib.hid (TG.out.call hbC); have BT := Lib.hid (Bt.new xA [.int .i64 0, .slice none 0 0, .slice none 0 0] 30 hg8); rw [hg8]; generalize xA.alloc (.cells #[.int .i64 0, .slice none 0 0, .slice none 0 0] 30) = xD at *; clear hg8 hbC) | (obtain ⟨g8, hg8⟩ : ∃ g, wz.heap.size = g := ⟨_, rfl⟩; have G8 : wz.heap.size ≤ g8 := (by omega); replace XB := Lib.hid (show Below wz.heap.size wz ((wz.alloc (.cells #[.int .i64 0, .slice none 0 0, .slice none 0 0] 30)).drew) from (by repeat (first | exact Below.refl _ _ | assumption | refine Below.drew ?_ | refine below_drewN ?_ _ | refine Below.alloc ?_ (by first | omega | (simp <;> omega)) _ | refine Below.setCell ?_ (by first | omega | (simp <;> omega)) _ | refine Below.trans ?_ (Below.mono (by assumption) (by first | omega | (simp <;> omega)))))); have BT := Lib.hid ((Bt.new wz [.int .i64 0, .slice none 0 0, .slice none 0 0] 30 hg8).drew); rw [hg8]; generalize (wz.alloc (.cells #[.int .i64 0, .slice none 0 0, .slice none 0 0] 30)).drew = xD at *; clear hg8)); clear a0 a1 a2 b0 b1 b2 d0 d1 d2; have a0 := (XB.out.cell hgV2).trans A0.out; have a1 := (XB.out.cell hgV2).trans A1.out; have a2 := (XB.out.cell hgV2).trans A2'.out; obtain ⟨⟨b0, b1, b2⟩, -⟩ := (K1.out.t1.callB XB.out K1.out.t1.lt).c3; obtain ⟨⟨d0, d1, d2⟩, -⟩ := (Y7.out.callB XB.out Y7.out.lt).c3)
                      refine hK.out _ _ ?_ (fun hHeld3 => ?_)
                      · ((try dsimp only); (exact ⟨a0, a1, a2, b0, d0, d1, d2⟩))
                      clear hB hK K hHeld2
                      refine AnyB.each (rs := [10]) (by kernel_rfl) (by simp) ?_
                      refine EachB.cons rfl (fun K hK hB => ?_) ?_
                      · skip
                        (obtain ⟨⟨y0, y1, y2⟩, q0', q1', q2'⟩ := BT.out.bw.c3; go_simp; clear y0 y1 y2 q0' q1' q2'; obtain ⟨TCn, BTn, XBn⟩ := store_tr TC.out BT.out XB.out G8; (try dsimp only at TCn BTn XBn); replace TC := Lib.hid TCn; replace BT := Lib.hid BTn; replace XB := Lib.hid XBn; clear TCn BTn XBn; clear a0 a1 a2 b0 b1 b2 d0 d1 d2; have a0 := (XB.out.cell hgV2).trans A0.out; have a1 := (XB.out.cell hgV2).trans A1.out; have a2 := (XB.out.cell hgV2).trans A2'.out; obtain ⟨⟨b0, b1, b2⟩, -⟩ := (K1.out.t1.callB XB.out K1.out.t1.lt).c3; obtain ⟨⟨d0, d1, d2⟩, -⟩ := (Y7.out.callB XB.out Y7.out.lt).c3)
                        refine hK.out _ _ ?_ (fun hHeld4 => ?_)
                        · ((try dsimp only); (exact ⟨a0, a1, a2, b0, d0, d1, d2⟩))
                        clear hB hK K hHeld3
                        refine AnyB.none (by kernel_rfl) ?_ _
                        go_wp2_with fail
                        go_meet
                        exact ⟨g8, _, _, rfl, G8, TC, BT, XB⟩
                      exact EachB.nil
                    exact EachB.nil
                  refine EachB.cons rfl (fun K hK hB => ?_) ?_
                  · skip
                    (go_simp; (first | (obtain ⟨g8, hg8⟩ : ∃ g, xC.heap.size = g := ⟨_, rfl⟩; have hbC := (show Below xC.heap.size xC (xC.alloc (.cells #[.int .i64 0, .slice none 0 0, .slice none 0 0] 30)) from (by repeat (first | exact Below.refl _ _ | assumption | refine Below.drew ?_ | refine below_drewN ?_ _ | refine Below.alloc ?_ (by first | omega | (simp <;> omega)) _ | refine Below.setCell ?_ (by first | omega | (simp <;> omega)) _ | refine Below.trans ?_ (Below.mono (by assumption) (by first | omega | (simp <;> omega)))))); have G8 : wz.heap.size ≤ g8 := (by have := XB.out.size; omega); replace XB := Lib.hid (Below.trans XB.out (hbC.mono XB.out.size)); replace TC := Lib.hid (TC.out.call hbC); have BT := Lib.hid (Bt.new xC [.int .i64 0, .slice none 0 0, .slice none 0 0] 30 hg8); rw [hg8]; generalize xC.alloc (.cells #[.int .i64 0, .slice none 0 0, .slice none 0 0] 30) = xD at *; clear hg8 hbC) | (obtain ⟨g8, hg8⟩ : ∃ g, xA.heap.size = g := ⟨_, rfl⟩; have hbC := (show Below xA.heap.size xA (xA.alloc (.cells #[.int .i64 0, .slice none 0 0, .slice none 0 0] 30)) from (by repeat (first | exact Below.refl _ _ | assumption | refine Below.drew ?_ | refine below_drewN ?_ _ | refine Below.alloc ?_ (by first | omega | (simp <;> omega)) _ | refine Below.setCell ?_ (by first | omega | (simp <;> omega)) _ | refine Below.trans ?_ (Below.mono (by assumption) (by first | omega | (simp <;> omega)))))); have G8 : wz.heap.size ≤ g8 := (by have := XB.out.size; omega); replace XB := Lib.hid (Below.trans XB.out (hbC.mono XB.out.size)); replace TG := Lib.hid (TG.out.call hbC); have BT := Lib.hid (Bt.new xA [.int .i64 0, .slice none 0 0, .slice none 0 0] 30 hg8); rw [hg8]; generalize xA.alloc (.cells #[.int .i64 0, .slice none 0 0, .slice none 0 0] 30) = xD at *; clear hg8 hbC) | (obtain ⟨g8, hg8⟩ : ∃ g, wz.heap.size = g := ⟨_, rfl⟩; have G8 : wz.heap.size ≤ g8 := (by omega); replace XB := Lib.hid (show Below wz.heap.size wz ((wz.alloc (.cells #[.int .i64 0, .slice none 0 0, .slice none 0 0] 30)).drew) from (by repeat (first | exact Below.refl _ _ | assumption | refine Below.drew ?_ | refine below_drewN ?_ _ | refine Below.alloc ?_ (by first | omega | (simp <;> omega)) _ | refine Below.setCell ?_ (by first | omega | (simp <;> omega)) _ | refine Below.trans ?_ (Below.mono (by assumption) (by first | omega | (simp <;> omega)))))); have BT := Lib.hid ((Bt.new wz [.int .i64 0, .slice none 0 0, .slice none 0 0] 30 hg8).drew); rw [hg8]; generalize (wz.alloc (.cells #[.int .i64 0, .slice none 0 0, .slice none 0 0] 30)).drew = xD at *; clear hg8)); clear a0 a1 a2 b0 b1 b2 d0 d1 d2; have a0 := (XB.out.cell hgV2).trans A0.out; have a1 := (XB.out.cell hgV2).trans A1.out; have a2 := (XB.out.cell hgV2).trans A2'.out; obtain ⟨⟨b0, b1, b2⟩, -⟩ := (K1.out.t1.callB XB.out K1.out.t1.lt).c3; obtain ⟨⟨d0, d1, d2⟩, -⟩ := (Y7.out.callB XB.out Y7.out.lt).c3)
                    refine hK.out _ _ ?_ (fun hHeld5 => ?_)
                    · ((try dsimp only); (exact ⟨a0, a1, a2, b0, d0, d1, d2⟩))
                    clear hB hK K hHeld1
                    refine AnyB.each (rs := [8]) (by kernel_rfl) (by simp) ?_
                    refine EachB.cons rfl (fun K hK hB => ?_) ?_
                    · skip
                      (go_simp; go_at_call 31; refine (stepS_tr h1 h2 hlt3 HX.out (TX.out.call XB.out) TG.out).mono ?_; rintro e xC ⟨p0, p1, rfl, hu, hxC⟩; replace XB := Lib.hid (Below.trans XB.out (hxC.mono XB.out.size)); obtain ⟨ap0, cp0, rfl⟩ := own_form hu.rx; obtain ⟨ap1, cp1, rfl⟩ := own_form hu.rz; have TC := Lib.hid hu; (try (replace BT := Lib.hid (BT.out.call hxC))); clear hu hxC TG; clear a0 a1 a2 b0 b1 b2 d0 d1 d2; have a0 := (XB.out.cell hgV2).trans A0.out; have a1 := (XB.out.cell hgV2).trans A1.out; have a2 := (XB.out.cell hgV2).trans A2'.out; obtain ⟨⟨b0, b1, b2⟩, -⟩ := (K1.out.t1.callB XB.out K1.out.t1.lt).c3; obtain ⟨⟨d0, d1, d2⟩, -⟩ := (Y7.out.callB XB.out Y7.out.lt).c3; dsimp only)
                      refine hK.out _ _ ?_ (fun hHeld6 => ?_)
                      · ((try dsimp only); (exact ⟨a0, a1, a2, b0, d0, d1, d2⟩))
                      clear hB hK K hHeld5
                      refine AnyB.each (rs := [10]) (by kernel_rfl) (by simp) ?_
                      refine EachB.cons rfl (fun K hK hB => ?_) ?_
                      · skip
                        (obtain ⟨⟨y0, y1, y2⟩, q0', q1', q2'⟩ := BT.out.bw.c3; go_simp; clear y0 y1 y2 q0' q1' q2'; obtain ⟨TCn, BTn, XBn⟩ := store_tr TC.out BT.out XB.out G8; (try dsimp only at TCn BTn XBn); replace TC := Lib.hid TCn; replace BT := Lib.hid BTn; replace XB := Lib.hid XBn; clear TCn BTn XBn; clear a0 a1 a2 b0 b1 b2 d0 d1 d2; have a0 := (XB.out.cell hgV2).trans A0.out; have a1 := (XB.out.cell hgV2).trans A1.out; have a2 := (XB.out.cell hgV2).trans A2'.out; obtain ⟨⟨b0, b1, b2⟩, -⟩ := (K1.out.t1.callB XB.out K1.out.t1.lt).c3; obtain ⟨⟨d0, d1, d2⟩, -⟩ := (Y7.out.callB XB.out Y7.out.lt).c3)
                        refine hK.out _ _ ?_ (fun hHeld7 => ?_)
                        · ((try dsimp only); (exact ⟨a0, a1, a2, b0, d0, d1, d2⟩))
                        clear hB hK K hHeld6
                        refine AnyB.none (by kernel_rfl) ?_ _
                        go_wp2_with fail
                        go_meet
                        exact ⟨g8, _, _, rfl, G8, TC, BT, XB⟩
                      exact EachB.nil
                    exact EachB.nil
                  exact EachB.nil
                refine EachB.cons rfl (fun K hK hB => ?_) ?_
                · skip
                  (go_simp; (first | (obtain ⟨g8, hg8⟩ : ∃ g, xC.heap.size = g := ⟨_, rfl⟩; have hbC := (show Below xC.heap.size xC (xC.alloc (.cells #[.int .i64 0, .slice none 0 0, .slice none 0 0] 30)) from (by repeat (first | exact Below.refl _ _ | assumption | refine Below.drew ?_ | refine below_drewN ?_ _ | refine Below.alloc ?_ (by first | omega | (simp <;> omega)) _ | refine Below.setCell ?_ (by first | omega | (simp <;> omega)) _ | refine Below.trans ?_ (Below.mono (by assumption) (by first | omega | (simp <;> omega)))))); have G8 : wz.heap.size ≤ g8 := (by have := XB.out.size; omega); replace XB := Lib.hid (Below.trans XB.out (hbC.mono XB.out.size)); replace TC := Lib.hid (TC.out.call hbC); have BT := Lib.hid (Bt.new xC [.int .i64 0, .slice none 0 0, .slice none 0 0] 30 hg8); rw [hg8]; generalize xC.alloc (.cells #[.int .i64 0, .slice none 0 0, .slice none 0 0] 30) = xD at *; clear hg8 hbC) | (obtain ⟨g8, hg8⟩ : ∃ g, xA.heap.size = g := ⟨_, rfl⟩; have hbC := (show Below xA.heap.size xA (xA.alloc (.cells #[.int .i64 0, .slice none 0 0, .slice none 0 0] 30)) from (by repeat (first | exact Below.refl _ _ | assumption | refine Below.drew ?_ | refine below_drewN ?_ _ | refine Below.alloc ?_ (by first | omega | (simp <;> omega)) _ | refine Below.setCell ?_ (by first | omega | (simp <;> omega)) _ | refine Below.trans ?_ (Below.mono (by assumption) (by first | omega | (simp <;> omega)))))); have G8 : wz.heap.size ≤ g8 := (by have := XB.out.size; omega); replace XB := Lib.hid (Below.trans XB.out (hbC.mono XB.out.size)); replace TG := Lib.hid (TG.out.call hbC); have BT := Lib.hid (Bt.new xA [.int .i64 0, .slice none 0 0, .slice none 0 0] 30 hg8); rw [hg8]; generalize xA.alloc (.cells #[.int .i64 0, .slice none 0 0, .slice none 0 0] 30) = xD at *; clear hg8 hbC) | (obtain ⟨g8, hg8⟩ : ∃ g, wz.heap.size = g := ⟨_, rfl⟩; have G8 : wz.heap.size ≤ g8 := (by omega); replace XB := Lib.hid (show Below wz.heap.size wz ((wz.alloc (.cells #[.int .i64 0, .slice none 0 0, .slice none 0 0] 30)).drew) from (by repeat (first | exact Below.refl _ _ | assumption | refine Below.drew ?_ | refine below_drewN ?_ _ | refine Below.alloc ?_ (by first | omega | (simp <;> omega)) _ | refine Below.setCell ?_ (by first | omega | (simp <;> omega)) _ | refine Below.trans ?_ (Below.mono (by assumption) (by first | omega | (simp <;> omega)))))); have BT := Lib.hid ((Bt.new wz [.int .i64 0, .slice none 0 0, .slice none 0 0] 30 hg8).drew); rw [hg8]; generalize (wz.alloc (.cells #[.int .i64 0, .slice none 0 0, .slice none 0 0] 30)).drew = xD at *; clear hg8)); clear a0 a1 a2 b0 b1 b2 d0 d1 d2; have a0 := (XB.out.cell hgV2).trans A0.out; have a1 := (XB.out.cell hgV2).trans A1.out; have a2 := (XB.out.cell hgV2).trans A2'.out; obtain ⟨⟨b0, b1, b2⟩, -⟩ := (K1.out.t1.callB XB.out K1.out.t1.lt).c3; obtain ⟨⟨d0, d1, d2⟩, -⟩ := (Y7.out.callB XB.out Y7.out.lt).c3)
                  refine hK.out _ _ ?_ (fun hHeld8 => ?_)
                  · ((try dsimp only); (exact ⟨a0, a1, a2, b0, d0, d1, d2⟩))
                  clear hB hK K hHeld0
                  refine AnyB.each (rs := [7]) (by kernel_rfl) (by simp) ?_
                  refine EachB.cons rfl (fun K hK hB => ?_) ?_
                  · skip
                    (go_simp; go_at_call 33; refine (CG.out _).mono ?_; rintro e xA ⟨u0, u1, rfl, hu, hxA⟩; replace XB := Lib.hid (Below.trans XB.out (hxA.mono XB.out.size)); have TG := Lib.hid hu; (try (replace BT := Lib.hid (BT.out.call hxA))); clear hu hxA; clear a0 a1 a2 b0 b1 b2 d0 d1 d2; have a0 := (XB.out.cell hgV2).trans A0.out; have a1 := (XB.out.cell hgV2).trans A1.out; have a2 := (XB.out.cell hgV2).trans A2'.out; obtain ⟨⟨b0, b1, b2⟩, -⟩ := (K1.out.t1.callB XB.out K1.out.t1.lt).c3; obtain ⟨⟨d0, d1, d2⟩, -⟩ := (Y7.out.callB XB.out Y7.out.lt).c3; dsimp only)
                    refine hK.out _ _ ?_ (fun hHeld9 => ?_)
                    · ((try dsimp only); (exact ⟨a0, a1, a2, b0, d0, d1, d2⟩))
                    clear hB hK K hHeld8
                    refine AnyB.each (rs := [8]) (by kernel_rfl) (by simp) ?_
                    refine EachB.cons rfl (fun K hK hB => ?_) ?_
                    · skip
                      (go_simp; go_at_call 31; refine (stepS_tr h1 h2 hlt3 HX.out (TX.out.call XB.out) TG.out).mono ?_; rintro e xC ⟨p0, p1, rfl, hu, hxC⟩; replace XB := Lib.hid (Below.trans XB.out (hxC.mono XB.out.size)); obtain ⟨ap0, cp0, rfl⟩ := own_form hu.rx; obtain ⟨ap1, cp1, rfl⟩ := own_form hu.rz; have TC := Lib.hid hu; (try (replace BT := Lib.hid (BT.out.call hxC))); clear hu hxC TG; clear a0 a1 a2 b0 b1 b2 d0 d1 d2; have a0 := (XB.out.cell hgV2).trans A0.out; have a1 := (XB.out.cell hgV2).trans A1.out; have a2 := (XB.out.cell hgV2).trans A2'.out; obtain ⟨⟨b0, b1, b2⟩, -⟩ := (K1.out.t1.callB XB.out K1.out.t1.lt).c3; obtain ⟨⟨d0, d1, d2⟩, -⟩ := (Y7.out.callB XB.out Y7.out.lt).c3; dsimp only)
                      refine hK.out _ _ ?_ (fun hHeld10 => ?_)
                      · ((try dsimp only); (exact ⟨a0, a1, a2, b0, d0, d1, d2⟩))
                      clear hB hK K hHeld9
                      refine AnyB.each (rs := [10]) (by kernel_rfl) (by simp) ?_
                      refine EachB.cons rfl (fun K hK hB => ?_) ?_
                      · skip
                        (obtain ⟨⟨y0, y1, y2⟩, q0', q1', q2'⟩ := BT.out.bw.c3; go_simp; clear y0 y1 y2 q0' q1' q2'; obtain ⟨TCn, BTn, XBn⟩ := store_tr TC.out BT.out XB.out G8; (try dsimp only at TCn BTn XBn); replace TC := Lib.hid TCn; replace BT := Lib.hid BTn; replace XB := Lib.hid XBn; clear TCn BTn XBn; clear a0 a1 a2 b0 b1 b2 d0 d1 d2; have a0 := (XB.out.cell hgV2).trans A0.out; have a1 := (XB.out.cell hgV2).trans A1.out; have a2 := (XB.out.cell hgV2).trans A2'.out; obtain ⟨⟨b0, b1, b2⟩, -⟩ := (K1.out.t1.callB XB.out K1.out.t1.lt).c3; obtain ⟨⟨d0, d1, d2⟩, -⟩ := (Y7.out.callB XB.out Y7.out.lt).c3)
                        refine hK.out _ _ ?_ (fun hHeld11 => ?_)
                        · ((try dsimp only); (exact ⟨a0, a1, a2, b0, d0, d1, d2⟩))
                        clear hB hK K hHeld10
                        refine AnyB.none (by kernel_rfl) ?_ _
                        go_wp2_with fail
                        go_meet
                        exact ⟨g8, _, _, rfl, G8, TC, BT, XB⟩
                      exact EachB.nil
                    exact EachB.nil
                  exact EachB.nil
                exact EachB.nil
              case rest =>
                obtain ⟨g8, p0, p1, rfl, G8, TC, BT, XB⟩ := hcut
                have K2 := Lib.hid (K1.out.call XB.out)
                have W2 := Lib.hid (own_below W1.out XB.out rfl)
                have G8n : (Value.slice (some ⟨gQ, 0, none⟩) Q2.length cQ).ownBlock ≠ some g8 := fun e => by have e2 : gQ = g8 := (by injection e); omega
                have G8F : g8 ≠ gF := by have := K1.out.far.m.lt; omega
                obtain ⟨ap0, cp0, rfl⟩ := own_form TC.out.rx
                obtain ⟨ap1, cp1, rfl⟩ := own_form TC.out.rz
                have HS := Lib.hid (step_sym h1 h2 hlt3 HX.out)
                clear K1 W1 TX A0 A1 A2' XB Y7 G8 hgV hgV2
                have HCS := Lib.hid (code_lt h2 HS.out)
                obtain ⟨⟨y0, y1, y2⟩, -⟩ := BT.out.bw.c3
                go_wp2_with fail
                clear y0 y1 y2
                refine (spec_l8Code_any n h1 h2 _ HS.out _ _ _ TC.out).mono ?_; rintro e w9 ⟨rfl, hb9⟩
                replace K2 := Lib.hid (K2.out.call hb9); replace W2 := Lib.hid (own_below W2.out hb9 rfl); replace TC := Lib.hid (TC.out.call hb9); replace BT := Lib.hid (BT.out.call hb9)
                clear hb9
                have f0 := K2.out.far.m.cs _ HCS.out
                have i6 : (codeT n (stT n x j) : Int) < (SZ : Int) := by have := HSZ.out; have := HCS.out; omega
                by_cases hin : ∃ q ∈ Q2, q.1 = stT n x j
                · have i7 : ¬ ((farV n Q2 (codeT n (stT n x j)) : Nat) : Int) = 0 := by
                    have h9 : farV n Q2 (codeT n (stT n x j)) ≠ 0 := fun h => (far_zero h1 h2 HI.out HS.out).1 h hin
                    omega
                  go_wp2_with fail
                  go_roundw
                  case rel => exact ⟨j + 1, Q2, M2, by go_num, by omega, (show InvT _ _ _ _ from InvJ.old HI.out HHX.out hin), HL, HHX, HHM, K2, W2⟩
                  case measure => simp [intOf]; omega
                · rw [far_out h1 h2 HI.out HS.out hin] at f0
                  go_wp2_with fail
                  obtain ⟨gQ2, cQ2, eV, hgQ, hgQ2, c0, c1, c2⟩ := tab_at K2.out.lst K2.out.trs.len HHM.out
                  injection eV with eV _ eC
                  injection eV with eV
                  injection eV with eV _
                  subst eV; subst eC
                  dsimp only at c1 c2
                  have TX := Lib.hid (K2.out.trs.get N _ _ HHX.out HHM.out)
                  have A0 := Lib.hid c0; have A1 := Lib.hid c1; have A2' := Lib.hid c2
                  have HFX2 := Lib.hid (far_in h1 h2 HI.out (List.mem_of_getElem? HHX.out))
                  have i8 : (codeT n x : Int) < (SZ : Int) := by have := HSZ.out; have := HCX.out; omega
                  clear c0 c1 c2 f0
                  obtain ⟨L2, hL2⟩ : ∃ L : Int, L = ((wd.length + 2 : Nat) : Int) := ⟨_, rfl⟩
                  have HL2 := Lib.hid hL2
                  clear hL2
                  have XB := Lib.hid (show Below w9.heap.size w9 w9.drew from (by repeat (first | exact Below.refl _ _ | assumption | refine Below.drew ?_ | refine below_drewN ?_ _ | refine Below.alloc ?_ (by first | omega | (simp <;> omega)) _ | refine Below.setCell ?_ (by first | omega | (simp <;> omega)) _ | refine Below.trans ?_ (Below.mono (by assumption) (by first | omega | (simp <;> omega))))))
                  obtain ⟨⟨b0, b1, b2⟩, -⟩ := (BT.out.bw.callB XB.out BT.out.bw.lt).c3; have a0 := (XB.out.cell hgQ2).trans A0.out; have a1 := (XB.out.cell hgQ2).trans A1.out; have a2 := (XB.out.cell hgQ2).trans A2'.out; have z0 := (K2.out.far.callB XB.out K2.out.far.m.lt).m.cs _ HCX.out; rw [HFX2.out] at z0
                  refine AnyB.begin (S := (fun w' => w'.cell? ⟨g8, 0, none⟩ = some (.int .i64 (n : Int)) ∧ w'.cell? ⟨g8, 1, none⟩ = some (.slice ap0 n cp0) ∧ w'.cell? ⟨g8, 2, none⟩ = some (.slice ap1 n cp1) ∧ w'.cell? ⟨gQ, N * 3, none⟩ = some (.int .i64 (n : Int)) ∧ w'.cell? ⟨gQ, N * 3 + 1, none⟩ = some (.slice amx n cmx) ∧ w'.cell? ⟨gQ, N * 3 + 2, none⟩ = some (.slice amz n cmz) ∧ w'.cell? ⟨gF, codeT n x, none⟩ = some (.int .i64 ((wd.length + 1 : Nat) : Int)))) [13] (by kernel_rfl) ?_ (fun hHeld0 => ?_)
                  · ((try dsimp only); (exact ⟨b0, b1, b2, a0, a1, a2, z0⟩))
                  refine AnyB.takeQ (i := 0) (oi := _) (v := ?_) (by simp only [List.getElem?_toArray, List.getElem?_cons_zero, List.getElem?_cons_succ]; rfl) (by kernel_rfl) (by kernel_rfl) (by kernel_rfl) (by intro _ _ _ h; exact h) (Or.inl ⟨by rfl, ?_⟩) ?_
                  rotate_left
                  · (intro w hSw; (try dsimp only at hSw); go_simp; (try (with_reducible rfl)))
                  try simp only [Act.put, List.setIfInBounds_toArray, List.set_cons_zero, List.set_cons_succ]
                  refine AnyB.take (i := 1) (oi := _) (v := ?_) (by simp only [List.getElem?_toArray, List.getElem?_cons_zero, List.getElem?_cons_succ]; rfl) (by kernel_rfl) (by kernel_rfl) (by kernel_rfl) (by kernel_rfl) (by kernel_rfl) (by intro _ _ _ h; exact h) (Or.inl ⟨by rfl, ?_⟩) (by assumption) ?_
                  rotate_left
                  · (intro w hSw; (try dsimp only at hSw); go_simp; (try (with_reducible rfl)))
                  try simp only [Act.put, List.setIfInBounds_toArray, List.set_cons_zero, List.set_cons_succ]
                  refine AnyB.takeQ (i := 3) (oi := _) (v := ?_) (by simp only [List.getElem?_toArray, List.getElem?_cons_zero, List.getElem?_cons_succ]; rfl) (by kernel_rfl) (by kernel_rfl) (by kernel_rfl) (by intro _ _ _ h; exact h) (Or.inl ⟨by rfl, ?_⟩) ?_
                  rotate_left
                  · (intro w hSw; (try dsimp only at hSw); go_simp; (try (with_reducible rfl)))
                  try simp only [Act.put, List.setIfInBounds_toArray, List.set_cons_zero, List.set_cons_succ]
                  refine AnyB.takeQ (i := 4) (oi := _) (v := ?_) (by simp only [List.getElem?_toArray, List.getElem?_cons_zero, List.getElem?_cons_succ]; rfl) (by kernel_rfl) (by kernel_rfl) (by kernel_rfl) (by intro _ _ _ h; exact h) (Or.inl ⟨by rfl, ?_⟩) ?_
                  rotate_left
                  · (intro w hSw; (try dsimp only at hSw); go_simp; (try (with_reducible rfl)))
                  try simp only [Act.put, List.setIfInBounds_toArray, List.set_cons_zero, List.set_cons_succ]
                  refine AnyB.takeQ (i := 5) (oi := _) (v := ?_) (by simp only [List.getElem?_toArray, List.getElem?_cons_zero, List.getElem?_cons_succ]; rfl) (by kernel_rfl) (by kernel_rfl) (by kernel_rfl) (by intro _ _ _ h; exact h) (Or.inl ⟨by rfl, ?_⟩) ?_
                  rotate_left
                  · (intro w hSw; (try dsimp only at hSw); go_simp; (try (with_reducible rfl)))
                  try simp only [Act.put, List.setIfInBounds_toArray, List.set_cons_zero, List.set_cons_succ]
                  refine AnyB.takeQ (i := 6) (oi := _) (v := ?_) (by simp only [List.getElem?_toArray, List.getElem?_cons_zero, List.getElem?_cons_succ]; rfl) (by kernel_rfl) (by kernel_rfl) (by kernel_rfl) (by intro _ _ _ h; exact h) (Or.inl ⟨by rfl, ?_⟩) ?_
                  rotate_left
                  · (intro w hSw; (try dsimp only at hSw); go_simp; (try (with_reducible rfl)))
                  try simp only [Act.put, List.setIfInBounds_toArray, List.set_cons_zero, List.set_cons_succ]
                  refine AnyB.take (i := 7) (oi := _) (v := ?_) (by simp only [List.getElem?_toArray, List.getElem?_cons_zero, List.getElem?_cons_succ]; rfl) (by kernel_rfl) (by kernel_rfl) (by kernel_rfl) (by kernel_rfl) (by kernel_rfl) (by intro _ _ _ h; exact h) (Or.inl ⟨by rfl, ?_⟩) (by assumption) ?_
                  rotate_left
                  · (intro w hSw; (try dsimp only at hSw); go_simp; (try (with_reducible rfl)))
                  try simp only [Act.put, List.setIfInBounds_toArray, List.set_cons_zero, List.set_cons_succ]
                  refine AnyB.each (rs := [2]) (by kernel_rfl) (by simp) ?_
                  refine EachB.cons rfl (fun K hK hB => ?_) ?_
                  · skip
                    (go_simp; go_at_call 29; refine (spec_l8Code_any n h1 h2 _ HS.out _ _ _ (TC.out.call XB.out)).mono ?_; rintro e xA ⟨rfl, hxA⟩; replace XB := Lib.hid (Below.trans XB.out (hxA.mono XB.out.size)); clear b0 b1 b2 a0 a1 a2 z0; obtain ⟨⟨b0, b1, b2⟩, -⟩ := (BT.out.bw.callB XB.out BT.out.bw.lt).c3; have a0 := (XB.out.cell hgQ2).trans A0.out; have a1 := (XB.out.cell hgQ2).trans A1.out; have a2 := (XB.out.cell hgQ2).trans A2'.out; have z0 := (K2.out.far.callB XB.out K2.out.far.m.lt).m.cs _ HCX.out; rw [HFX2.out] at z0; clear hxA; dsimp only)
                    refine hK.out _ _ ?_ (fun hHeld1 => ?_)
                    · ((try dsimp only); (exact ⟨b0, b1, b2, a0, a1, a2, z0⟩))
                    clear hB hK K hHeld0
                    refine AnyB.each (rs := [8]) (by kernel_rfl) (by simp) ?_
                    refine EachB.cons rfl (fun K hK hB => ?_) ?_
                    · skip
                      (go_simp; go_at_call 29; refine (spec_l8Code_any n h1 h2 x HX.out _ _ _ (TX.out.call XB.out)).mono ?_; rintro e xA ⟨rfl, hxA⟩; replace XB := Lib.hid (Below.trans XB.out (hxA.mono XB.out.size)); clear b0 b1 b2 a0 a1 a2 z0; obtain ⟨⟨b0, b1, b2⟩, -⟩ := (BT.out.bw.callB XB.out BT.out.bw.lt).c3; have a0 := (XB.out.cell hgQ2).trans A0.out; have a1 := (XB.out.cell hgQ2).trans A1.out; have a2 := (XB.out.cell hgQ2).trans A2'.out; have z0 := (K2.out.far.callB XB.out K2.out.far.m.lt).m.cs _ HCX.out; rw [HFX2.out] at z0; clear hxA; dsimp only)
                      refine hK.out _ _ ?_ (fun hHeld2 => ?_)
                      · ((try dsimp only); (exact ⟨b0, b1, b2, a0, a1, a2, z0⟩))
                      clear hB hK K hHeld1
                      refine AnyB.takeQ (i := 9) (oi := _) (v := ?_) (by simp only [List.getElem?_toArray, List.getElem?_cons_zero, List.getElem?_cons_succ]; rfl) (by kernel_rfl) (by kernel_rfl) (by kernel_rfl) (by intro _ _ _ h; exact h) (Or.inl ⟨by rfl, ?_⟩) ?_
                      rotate_left
                      · (intro w hSw; (try dsimp only at hSw); go_simp; (try (with_reducible rfl)))
                      try simp only [Act.put, List.setIfInBounds_toArray, List.set_cons_zero, List.set_cons_succ]
                      refine AnyB.take (i := 10) (oi := _) (v := ?_) (by simp only [List.getElem?_toArray, List.getElem?_cons_zero, List.getElem?_cons_succ]; rfl) (by kernel_rfl) (by kernel_rfl) (by kernel_rfl) (by kernel_rfl) (by kernel_rfl) (by intro _ _ _ h; exact h) (Or.inl ⟨by rfl, ?_⟩) (by assumption) ?_
                      rotate_left
                      · (intro w hSw; (try dsimp only at hSw); go_simp; (try (with_reducible rfl)))
                      try simp only [Act.put, List.setIfInBounds_toArray, List.set_cons_zero, List.set_cons_succ]
                      refine AnyB.takeQ (i := 11) (oi := _) (v := ?_) (by simp only [List.getElem?_toArray, List.getElem?_cons_zero, List.getElem?_cons_succ]; rfl) (by kernel_rfl) (by kernel_rfl) (by kernel_rfl) (by intro _ _ _ h; exact h) (Or.inl ⟨by rfl, ?_⟩) ?_
                      rotate_left
                      · (intro w hSw; (try dsimp only at hSw); go_simp; (try (with_reducible rfl)))
                      try simp only [Act.put, List.setIfInBounds_toArray, List.set_cons_zero, List.set_cons_succ]
                      refine AnyB.takeQ (i := 12) (oi := _) (v := ?_) (by simp only [List.getElem?_toArray, List.getElem?_cons_zero, List.getElem?_cons_succ]; rfl) (by kernel_rfl) (by kernel_rfl) (by kernel_rfl) (by intro _ _ _ h; exact h) (Or.inl ⟨by rfl, ?_⟩) ?_
                      rotate_left
                      · (intro w hSw; (try dsimp only at hSw); go_simp; (try (with_reducible rfl)))
                      try simp only [Act.put, List.setIfInBounds_toArray, List.set_cons_zero, List.set_cons_succ]
                      refine AnyB.each (rs := [13]) (by kernel_rfl) (by simp) ?_
                      refine EachB.cons rfl (fun K hK hB => ?_) ?_
                      · skip
                        (have K3 := Lib.hid (K2.out.call XB.out); have y0 := K3.out.far.m.cs _ HCS.out; have y1 := K3.out.far.m.fz _ HCS.out; have W9 : IntKind.i64.wrap ((wd.length : Int) + 1 + 1) = L2 := (by have := HD.out; rw [HL2.out]; exact (IntWalk.i64_in _ (by omega)).trans (by omega)); go_simp; clear y0 y1; have K4 := Lib.hid (K3.out.setF HCS.out (wd.length + 2)); rw [← HL2.out] at K4; have GS := Lib.hid (set_grown xA gF (codeT n (stT n x j)) (.int .i64 L2)); have TY := Lib.hid K3.out.far.ty; replace TC := Lib.hid (TC.out.call XB.out); replace BT := Lib.hid (BT.out.call XB.out); replace W2 := Lib.hid (own_below W2.out XB.out rfl); clear W9 K3; clear b0 b1 b2 a0 a1 a2 z0)
                        refine hB.out _ _ rfl ?_
                        clear hB hK K
                        refine AnyB.none (by kernel_rfl) ?_ _
                        obtain ⟨cur, hcur⟩ := TY.out
                        have TC3 := Lib.hid (TC.out.kept GS.out (int_no hcur))
                        have BT3 := Lib.hid (BT.out.kept GS.out (fun e => G8F (by injection e)))
                        have W3 := Lib.hid (own_kept W2.out GS.out (fun b hb cur2 => (int_no hcur b hb cur2).2))
                        have K5 := Lib.hid (show FS n w _ (.slice A n cA) (.slice A2 n cB) gF (farV n (Q2 ++ [(stT n x j, wd ++ [j])])) _ M2 Q2 from by
                          have e9 : farV n (Q2 ++ [(stT n x j, wd ++ [j])]) = fun k => if k = codeT n (stT n x j) then wd.length + 2 else farV n Q2 k := by
                            funext k; rw [far_add h1 h2 HI.out HS.out hin k]; simp
                          rw [e9]; exact K4.out)
                        clear K2 K4 TC BT W2 TY GS hcur
                        clear i5 i6 i8
                        generalize xA.setCell ⟨gF, codeT n (stT n x j), none⟩ (.int .i64 L2) = wS at *
                        obtain ⟨⟨y0, y1, y2⟩, -⟩ := BT3.out.bw.c3
                        have hszS := K5.out.bel.size
                        have hltS := K5.out.t1.lt
                        have hbX := Lib.hid (show Below wS.heap.size wS (wS.alloc (.cells #[.int .i64 (n : Int), .slice ap0 n cp0, .slice ap1 n cp1] 30)) from (by repeat (first | exact Below.refl _ _ | assumption | refine Below.drew ?_ | refine below_drewN ?_ _ | refine Below.alloc ?_ (by first | omega | (simp <;> omega)) _ | refine Below.setCell ?_ (by first | omega | (simp <;> omega)) _ | refine Below.trans ?_ (Below.mono (by assumption) (by first | omega | (simp <;> omega))))))
                        have K6 := Lib.hid (K5.out.call hbX.out)
                        have TC6 := Lib.hid (TC3.out.call hbX.out)
                        have W6 := Lib.hid (own_below W3.out hbX.out rfl)
                        have g3 : w.heap.size + 1 ≤ (wS.alloc (.cells #[.int .i64 (n : Int), .slice ap0 n cp0, .slice ap1 n cp1] 30)).heap.size := by simp; omega
                        have g1 : Q2.length + 1 ≤ maxLen := by unfold maxLen; omega
                        have g2 : (Q2.length + 1) * 56 ≤ 140737488355328 := by omega
                        have g5 := reads_news wS [.int .i64 (n : Int), .slice ap0 n cp0, .slice ap1 n cp1] 30 3 1 rfl
                        have g6 : ∀ u ∈ [Value.int .i64 (n : Int), .slice ap0 n cp0, .slice ap1 n cp1], u.oneCell' = true := fun u hu => by simp at hu; rcases hu with rfl | rfl | rfl <;> rfl
                        clear K5 TC3 W3 hszS hltS
                        go_wp2_with (at_builtin; go_loud (refine wpList_append_any _ rfl (.tmp 81) (.tmp 83) 82 rfl (w.heap.size + 1) 30 j0 (.agg #[.int .i64 0, .slice none 0 0, .slice none 0 0]) 3 56 Try.underlying82 hj0 hy0 hy1 hy2 rfl (by decide) (.slice (some ⟨gQ, 0, none⟩) Q2.length cQ) Q2.length (M2.flatMap (vcs n)) ?hs ?ho (wS.heap.size + 1) (some ⟨wS.heap.size, 0, none⟩) 1 1 [.int .i64 (n : Int), .slice ap0 n cp0, .slice ap1 n cp1] ?hx ?hr ?h1 ?h63 ?hb ?hbs ?_; (case ho => exact K6.out.lst); (case hs => rfl); (case h63 => exact g1); (case hb => exact g2); (case hbs => exact g3); (case h1 => exact g6); (case hx => rfl); (case hr => exact g5); intro v9 w0 hown9 hgr9 hat9; obtain ⟨g9, cp9, rfl⟩ := Go.Joins.ownsRow_form hown9 (by omega); have K9 := Lib.hid (K6.out.app (p := (stT n x j, wd ++ [j])) (m := (.slice ap0 n cp0, .slice ap1 n cp1)) TC6.out hown9 hgr9 (hat9.elim (fun e => .inl e.symm) (fun e => .inr (by injection e)))); have W9 := Lib.hid (own_kept W6.out hgr9 (fun b hb cur2 => (ty_no K6.out.lst b hb cur2).2)); clear hown9 hgr9 hat9 K6 TC6 W6 g3 g5 hbX y0 y1 y2))
                        go_roundw
                        case rel => exact ⟨j + 1, Q2 ++ [(stT n x j, wd ++ [j])], M2 ++ [(.slice ap0 n cp0, .slice ap1 n cp1)], by go_num, by omega, (show InvT _ _ _ _ from InvJ.new (K8 n) HI.out HHX.out hlt3 hin), (show ∀ p ∈ _, _ from far_few HL.out HD.out), (show _ = _ from far_fst HHX.out), (show _ = _ from far_fst HHM.out), K9, W9⟩
                        case measure => simp [intOf]; omega
                      exact EachB.nil
                    exact EachB.nil
                  exact EachB.nil
            · have i3 : ¬ (j : Int) < (KK n : Int) := by omega
              obtain rfl : j = KK n := by omega
              go_wp2_with fail
              go_roundw
              case rel => exact ⟨N + 1, Q2, M2, by go_num, by omega, (show InvT _ _ _ _ from InvJ.next HI.out), HL, HK⟩
              case measure => have := HMX.out; simp [intOf]; omega
        · have i4 : ¬ ((wd.length + 1 : Nat) : Int) ≤ 12 := by omega
          have HE := Lib.hid (far_end HI.out HNI.out (.inr ⟨_, HHX.out, by dsimp only; omega⟩))
          clear hd
          go_wp2_with fail
          exact bodyPost_ret (v := .slice (some ⟨gF, 0, none⟩) SZ SZ) (by simp [results, Try.results28, go_sem]) rfl ⟨gF, N, Q, by rw [HSZ.out], K6.out.far, GF, HI.out, HL.out, .inr HE.out, K6.out.bel⟩
    · have i1 : ¬ (N : Int) < (Q.length : Int) := by omega
      have HE := Lib.hid (show (∃ p ∈ Q, p.1 = t) ∨ LWT n t none from by
        by_cases hin : ∃ p ∈ Q, p.1 = t
        · exact .inl hin
        · exact .inr (far_end HI.out hin (.inl (by omega))))
      go_wp2_with fail
      exact bodyPost_ret (v := .slice (some ⟨gF, 0, none⟩) SZ SZ) (by simp [results, Try.results28, go_sem]) rfl ⟨gF, N, Q, by rw [HSZ.out], HK.out.far, GF, HI.out, HL.out, HE.out, HK.out.bel⟩
end Go.Proofs.Ytjdffjnennodaaa
