/- The program's search for a word. -/
import Derived.Test.YtjdffjnennodaaaZ41Kw5
import Derived.Test.YtjdffjnennodaaaZ11Brk
import Derived.BigRegion
import Derived.BigQuiet
import Derived.Deep.RegionLaw
import Derived.Deep.DeepCutAuto
namespace Go.Proofs.Ytjdffjnennodaaa
set_option linter.unusedSimpArgs false
set_option linter.unusedVariables false
set_option linter.unnecessarySimpa false
set_option maxRecDepth 200000
open Go.ChangeShapes Go.WideShapes Go.ChangeAt Go.RowKit Go.Maps

/-- What the search answers. -/
def WPost (n : Nat) (t : TT) (w : World) (e : Ending) (w' : World) : Prop :=
  (∃ (u : Value) (b : Bool) (r : Option (List Nat)), e = .returned (.tuple #[u, .bool b]) ∧ LWT n t r ∧ ((b = false ∧ r = none) ∨ ∃ wd, b = true ∧ r = some wd ∧ w'.ownsRow 0 57 3 u wd.length ((gts n wd).flatMap E3.cs))) ∧ Below w.heap.size w w'
set_option maxHeartbeats 16000000 in
theorem impl_leastWord_any (n : Nat) (h1 : 1 ≤ n) (h2 : n ≤ 2) (t : TT) (ht : SymT n t) (v0 v1 : Value) (w : World) (r0 : RdE w v0 E3.cs 3 (pes t.1)) (r1 : RdE w v1 E3.cs 3 (pes t.2)) :
    Calls Try.prog 21 #[.agg #[.int .i64 (n : Int), v0, v1]] w (WPost n t w) := by
  obtain ⟨i0, hi, hz0, hz1, hz2⟩ := info_parts info_Gate
  obtain ⟨j0, hj0, hy0, hy1, hy2⟩ := info_parts info_wordNode
  have HT := Lib.hid ht; have R0 := Lib.hid r0; have R1 := Lib.hid r1
  obtain ⟨A, cA, rfl⟩ : ∃ A c, v0 = .slice A n c := by have := r0.form; rw [pes_len, show t.1.length = n from ht.lx] at this; obtain ⟨a, c, h, _⟩ := this; exact ⟨a, c, h⟩
  obtain ⟨A2, cB, rfl⟩ : ∃ A c, v1 = .slice A n c := by have := r1.form; rw [pes_len, show t.2.length = n from ht.lz] at this; obtain ⟨a, c, h, _⟩ := this; exact ⟨a, c, h⟩
  clear ht r0 r1
  have T0 := Lib.hid (Bw.new w [.int .i64 (n : Int), .slice A n cA, .slice A2 n cB] 30 rfl)
  obtain ⟨⟨t0, t1, t2⟩, -⟩ := T0.out.c3
  have hmm := @run_makeMap Try.prog
  go_enter Try.func21, Try.ntmps21
  go_wp2_with fail
  clear t0 t1 t2
  go_loopw [4, 18] (fun sl si wr => ∃ (k : Nat) (u : Value), u = sl ∧ k ≤ n ∧ si = .int .i64 (k : Int) ∧ Hid (wr.ownsRow (w.heap.size + 1) 57 3 u (k * 2) ((ltsTo k).flatMap E3.cs)) ∧ Hid (Bw wr w.heap.size [.int .i64 (n : Int), .slice A n cA, .slice A2 n cB]) ∧ Hid (Below w.heap.size w wr)) (fun _ i _ => n - (intOf i).toNat)
  case atStart => exact ⟨0, _, rfl, Nat.zero_le _, rfl, (show World.ownsRow _ _ _ _ _ _ _ from own_lit0 (f := E3.cs) (sz := 3) _ (w.heap.size + 1) 57 (w.heap.size + 1) (by simp) (Nat.le_refl _)), (show Bw _ _ _ from T0.out.alloc _), (show Below _ _ _ from (by repeat (first | exact Below.refl _ _ | assumption | refine Below.drew ?_ | refine below_drewN ?_ _ | refine Below.alloc ?_ (by first | omega | (simp <;> omega)) _ | refine Below.setCell ?_ (by first | omega | (simp <;> omega)) _ | refine Below.trans ?_ (Below.mono (by assumption) (by first | omega | (simp <;> omega))))))⟩
  case round =>
    clear T0
    obtain ⟨k, u, rfl, hk, rfl, ho, hT, hB⟩ := hrel
    have hsz := hB.out.size
    have hTl := hT.out.lt
    obtain ⟨⟨t0, t1, t2⟩, -⟩ := hT.out.c3
    obtain ⟨aU, cU, rfl⟩ := own_form ho.out
    by_cases hlt : k < n
    · have i1 : (k : Int) < (n : Int) := by omega
      have HA := Lib.hid (ltsTo_add k)
      have OX := Lib.hid (World.ownsRow.alloc ho.out (.cells #[.int .i64 1, .int .i64 (k : Int), .int .i64 0, .int .i64 5, .int .i64 (k : Int), .int .i64 0] 57))
      have hbX := Lib.hid (Below.alloc hB.out hsz (.cells #[.int .i64 1, .int .i64 (k : Int), .int .i64 0, .int .i64 5, .int .i64 (k : Int), .int .i64 0] 57))
      have g3 : w.heap.size + 1 ≤ (wr.alloc (.cells #[.int .i64 1, .int .i64 (k : Int), .int .i64 0, .int .i64 5, .int .i64 (k : Int), .int .i64 0] 57)).heap.size := by simp; omega
      have g1 : k * 2 + 2 ≤ maxLen := by unfold maxLen; omega
      have g2 : (k * 2 + 2) * 24 ≤ 140737488355328 := by omega
      have g5 := reads_news wr [.int .i64 1, .int .i64 (k : Int), .int .i64 0, .int .i64 5, .int .i64 (k : Int), .int .i64 0] 57 3 2 rfl
      have g6 : ∀ u ∈ [Value.int .i64 1, .int .i64 (k : Int), .int .i64 0, .int .i64 5, .int .i64 (k : Int), .int .i64 0], u.oneCell' = true := fun u hu => by simp at hu; rcases hu with rfl | rfl | rfl | rfl | rfl | rfl <;> rfl
      go_wp2_with (at_builtin; go_loud (refine wpList_append_any _ rfl (.tmp 21) (.tmp 26) 34 rfl (w.heap.size + 1) 57 i0 (.agg #[.int .i64 0, .int .i64 0, .int .i64 0]) 3 24 Try.underlying34 hi hz0 hz1 hz2 rfl (by decide) (.slice aU (k * 2) cU) (k * 2) ((ltsTo k).flatMap E3.cs) ?hs ?ho (wr.heap.size + 1) (some ⟨wr.heap.size, 0, none⟩) 2 2 [.int .i64 1, .int .i64 (k : Int), .int .i64 0, .int .i64 5, .int .i64 (k : Int), .int .i64 0] ?hx ?hr ?h1 ?h63 ?hb ?hbs ?_; (case ho => with_reducible exact OX.out); (case hs => rfl); (case h63 => exact g1); (case hb => exact g2); (case hbs => exact g3); (case h1 => exact g6); (case hx => rfl); (case hr => exact g5); intro v3 w4 hown3 hg3 hat3; have S4 := Lib.hid (show w4.ownsRow (w.heap.size + 1) 57 3 v3 ((k + 1) * 2) ((ltsTo (k + 1)).flatMap E3.cs) from (by rw [HA.out, show (k + 1) * 2 = k * 2 + 2 by omega]; exact hown3)); have B4 := Lib.hid (show Below w.heap.size w w4 from hbX.out.grown hg3 (by simp; omega) (fun b hb => by have := (OX.out.lt b hb).1; omega)); have T4 := Lib.hid (show Bw w4 w.heap.size [.int .i64 (n : Int), .slice A n cA, .slice A2 n cB] from (hT.out.alloc _).kept hg3 (fun e => by have := (OX.out.lt _ e.symm).1; omega)); clear hown3 hg3 hat3))
      go_roundw
      case rel => exact ⟨k + 1, v3, rfl, by omega, by go_num, S4, T4, B4⟩
      case measure => simp [intOf]; omega
    · obtain rfl : k = n := by omega
      have i1 : ¬ (k : Int) < (k : Int) := by omega
      clear hlt hk
      generalize k = n at *
      go_upto_region 7 with fail
      go_cut [31] (fun s31 wx => s31 = .bool (decide (n = 2)) ∧ wx = wr)
      case first =>
        clear R0 R1 HT ho hT hB hsz hTl i1
        by_cases e2 : n = 2
        · subst e2
          go_wp2_with fail
          go_meet
          exact ⟨rfl, rfl⟩
        · obtain rfl : n = 1 := by omega
          go_wp2_with fail
          go_meet
          exact ⟨rfl, rfl⟩
      case rest =>
        obtain ⟨rfl, rfl⟩ := hcut
        go_upto_if 31 with fail
        go_cut [4] (fun s4 wx => ∃ u : Value, u = s4 ∧ Hid (wx.ownsRow (w.heap.size + 1) 57 3 u (KK n) ((gls n).flatMap E3.cs)) ∧ Hid (Bw wx w.heap.size [.int .i64 (n : Int), .slice A n cA, .slice A2 n cB]) ∧ Hid (Below w.heap.size w wx))
        case first =>
          clear R0 R1 HT
          by_cases e2 : n = 2
          · subst e2
            have OX := Lib.hid (World.ownsRow.alloc ho.out (.cells #[.int .i64 9, .int .i64 0, .int .i64 1, .int .i64 9, .int .i64 1, .int .i64 0] 57))
            have hbX := Lib.hid (Below.alloc hB.out hsz (.cells #[.int .i64 9, .int .i64 0, .int .i64 1, .int .i64 9, .int .i64 1, .int .i64 0] 57))
            have g3 : w.heap.size + 1 ≤ (wc.alloc (.cells #[.int .i64 9, .int .i64 0, .int .i64 1, .int .i64 9, .int .i64 1, .int .i64 0] 57)).heap.size := by simp; omega
            have g1 : 2 * 2 + 2 ≤ maxLen := by unfold maxLen; omega
            have g2 : (2 * 2 + 2) * 24 ≤ 140737488355328 := by omega
            have g5 := reads_news wc [.int .i64 9, .int .i64 0, .int .i64 1, .int .i64 9, .int .i64 1, .int .i64 0] 57 3 2 rfl
            have g6 : ∀ u ∈ [Value.int .i64 9, .int .i64 0, .int .i64 1, .int .i64 9, .int .i64 1, .int .i64 0], u.oneCell' = true := fun u hu => by simp at hu; rcases hu with rfl | rfl | rfl | rfl | rfl | rfl <;> rfl
            go_wp2_with (at_builtin; go_loud (refine wpList_append_any _ rfl (.tmp 32) (.tmp 35) 34 rfl (w.heap.size + 1) 57 i0 (.agg #[.int .i64 0, .int .i64 0, .int .i64 0]) 3 24 Try.underlying34 hi hz0 hz1 hz2 rfl (by decide) (.slice aU (2 * 2) cU) (2 * 2) ((ltsTo 2).flatMap E3.cs) ?hs ?ho (wc.heap.size + 1) (some ⟨wc.heap.size, 0, none⟩) 2 2 [.int .i64 9, .int .i64 0, .int .i64 1, .int .i64 9, .int .i64 1, .int .i64 0] ?hx ?hr ?h1 ?h63 ?hb ?hbs ?_; (case ho => with_reducible exact OX.out); (case hs => rfl); (case h63 => exact g1); (case hb => exact g2); (case hbs => exact g3); (case h1 => exact g6); (case hx => rfl); (case hr => exact g5); intro v3 w4 hown3 hg3 hat3; have S4 := Lib.hid (show w4.ownsRow (w.heap.size + 1) 57 3 v3 (KK 2) ((gls 2).flatMap E3.cs) from hown3); have B4 := Lib.hid (show Below w.heap.size w w4 from hbX.out.grown hg3 (by simp; omega) (fun b hb => by have := (OX.out.lt b hb).1; omega)); have T4 := Lib.hid (show Bw w4 w.heap.size [.int .i64 2, .slice A 2 cA, .slice A2 2 cB] from (hT.out.alloc _).kept hg3 (fun e => by have := (OX.out.lt _ e.symm).1; omega)); clear hown3 hg3 hat3))
            go_meet
            exact ⟨v3, rfl, S4, T4, B4⟩
          · obtain rfl : n = 1 := by omega
            go_wp2_with fail
            go_meet
            exact ⟨_, rfl, (show World.ownsRow _ _ _ _ _ _ _ from ho.out), hT, hB⟩
        case rest =>
          clear t0 t1 t2 hT hB hsz hTl ho i1
          obtain ⟨vL, rfl, ho, hT, hB⟩ := hcut
          obtain ⟨⟨t0, t1, t2⟩, -⟩ := hT.out.c3
          go_wp2_with fail
          refine (root_tr h1 h2 _).mono ?_; rintro e w1 ⟨q0, q1, rfl, hX1, hb1⟩
          have T1 := Lib.hid (hT.out.call hb1)
          have L1 := Lib.hid (own_below ho.out hb1 rfl)
          have B1 := Lib.hid (show Below w.heap.size w w1 from Below.trans hB.out (hb1.mono hB.out.size))
          have X1 := Lib.hid hX1
          clear hX1 hb1 ho hT hB t0 t1 t2
          go_wp2_with fail
          have X2 := Lib.hid (X1.out.call (show Below w1.heap.size w1 ((w1.alloc (.cells #[.int .i64 (n : Int), q0, q1, .slice none 0 0] 73)).alloc (.map #[] 0)) from (by repeat (first | exact Below.refl _ _ | assumption | refine Below.drew ?_ | refine below_drewN ?_ _ | refine Below.alloc ?_ (by first | omega | (simp <;> omega)) _ | refine Below.setCell ?_ (by first | omega | (simp <;> omega)) _ | refine Below.trans ?_ (Below.mono (by assumption) (by first | omega | (simp <;> omega)))))))
          refine (key_tr h1 h2 (id_sym h1 h2) X2.out).mono ?_; rintro e w2 ⟨rfl, hb2⟩
          obtain ⟨aL, cL, rfl⟩ := own_form L1.out
          have K2 := (KS.begin_ T1.out L1.out B1.out X1.out).call hb2
          obtain ⟨l0, hl0⟩ := key_lit h2 (id_sym h1 h2)
          obtain ⟨w3, hrun3, hs3, hg3⟩ := K2.seen.put hl0 (by unfold maxLen; simp)
          have K3 := Lib.hid (K2.put (p := (idT2 n, [])) hs3 hg3)
          go_wp2_with fail
          clear X1 X2 B1 T1 L1 hb2 K2 hl0 hrun3 hs3 hg3 l0 hmm
          obtain ⟨B, hB⟩ : ∃ B, B = w1.heap.size + 1 := ⟨_, rfl⟩
          rw [← hB] at K3 ⊢
          clear hB
          go_loopw [6, 8] (fun s6 s8 wr => ∃ (d N : Nat) (pre P : List (TT × List Nat)) (M : List NodeV), s8 = .int .i64 (d : Int) ∧ d ≤ 13 ∧ Hid (PlQ n t d N 0 0 pre P []) ∧ Hid (KS n w wr (.slice A n cA) (.slice A2 n cB) (.slice aL (KK n) cL) B (pre ++ P ++ []) s6 (.slice none 0 0) M [] P [])) (fun _ s8 _ => 13 - (intOf s8).toNat)
          case atStart => exact ⟨0, 0, [], _, _, rfl, Nat.zero_le _, (show PlQ _ _ _ _ _ _ _ _ _ from PlQ.start n t), K3⟩
          case round =>
            clear K3
            obtain ⟨d, N, pre, P, M, rfl, hd, HQ, HK⟩ := hrel
            by_cases hlt : d ≤ 12
            · have i1 : (d : Int) ≤ 12 := by omega
              obtain ⟨aV, cV, rfl⟩ := own_form HK.out.lev
              have KF := Lib.hid HK.out.fresh
              clear HK
              go_wp2_with fail
              go_loopw [9, 56] (fun s9 s56 wx => ∃ (i : Nat) (P2 : List (TT × List Nat)) (M2 : List NodeV), s56 = .int .i64 (i : Int) ∧ i ≤ P.length ∧ Hid (PlQ n t d N i 0 pre P P2) ∧ Hid (KS n w wx (.slice A n cA) (.slice A2 n cB) (.slice aL (KK n) cL) B (pre ++ P ++ P2) (.slice aV P.length cV) s9 M M2 P P2)) (fun _ s56 _ => P.length - (intOf s56).toNat)
              case atStart => exact ⟨0, [], [], rfl, Nat.zero_le _, HQ, KF⟩
              case round =>
                clear KF HQ
                obtain ⟨i, P2, M2, rfl, hil, HQ, HK⟩ := hrel
                have hPL : P.length ≤ 1048576 := by have := HQ.out.len h1 h2; omega
                by_cases hlt2 : i < P.length
                · have i2 : (i : Int) < (P.length : Int) := by omega
                  obtain ⟨x, wd, hx⟩ : ∃ x wd, P[i]? = some (x, wd) := ⟨P[i].1, P[i].2, by simp [hlt2]⟩
                  obtain ⟨m, hm⟩ : ∃ m, M[i]? = some m := by
                    have := HK.out.nds.len
                    exact ⟨M[i], by simp [show i < M.length by omega]⟩
                  obtain ⟨gV, cp, eV, hgV, hgV2, c0, c1, c2, c3⟩ := node_at HK.out.lev HK.out.nds.len hm
                  injection eV with eV _ eC
                  subst eV; subst eC
                  have hnd := HK.out.nds.get i _ m hx hm
                  have HX := Lib.hid (HQ.out.sym h1 h2 _ (List.mem_of_getElem? hx))
                  have ND := Lib.hid hnd
                  have PX := Lib.hid hx
                  obtain ⟨⟨t0, t1, t2⟩, -⟩ := HK.out.t1.c3
                  clear hx hm hnd
                  obtain ⟨mx, mz, mg⟩ := m
                  obtain ⟨ax, cx, ex⟩ := own_form ND.out.x
                  obtain ⟨az, cz, ez⟩ := own_form ND.out.z
                  obtain ⟨ag, cg, eg⟩ := own_form ND.out.g
                  dsimp only at ex ez eg c1 c2 c3
                  subst ex; subst ez; subst eg
                  have hbA := (show Below wr.heap.size wr (wr.alloc (.cells #[.int .i64 (n : Int), .slice ax n cx, .slice az n cz, .slice ag wd.length cg] 73)) from (by repeat (first | exact Below.refl _ _ | assumption | refine Below.drew ?_ | refine below_drewN ?_ _ | refine Below.alloc ?_ (by first | omega | (simp <;> omega)) _ | refine Below.setCell ?_ (by first | omega | (simp <;> omega)) _ | refine Below.trans ?_ (Below.mono (by assumption) (by first | omega | (simp <;> omega))))))
                  have K2 := Lib.hid (HK.out.call hbA)
                  have N2 := Lib.hid (ND.out.call hbA)
                  have X11 := Lib.hid (Bw.new wr [.int .i64 (n : Int), .slice ax n cx, .slice az n cz, .slice ag wd.length cg] 73 rfl)
                  have G11 : u9.ownBlock ≠ some wr.heap.size := fun e => by have := (HK.out.nxt.lt _ e).2; omega
                  have G12 : w.heap.size < wr.heap.size := HK.out.t1.lt
                  have GB : wr.heap.size ≠ B := K2.out.seen.off_box X11.out (by simp)
                  go_wp2_with fail
                  obtain ⟨g11, hg⟩ : ∃ g, wr.heap.size = g := ⟨_, rfl⟩
                  rw [hg] at X11 G11 G12 GB ⊢
                  generalize (wr.alloc (.cells #[.int .i64 (n : Int), .slice ax n cx, .slice az n cz, .slice ag wd.length cg] 73)) = wA at *
                  clear hbA HK ND c0 c1 c2 c3 t0 t1 t2 hgV hgV2 hg
                  by_cases hxt : x = t
                  · refine (eq_tr (b := true) HX.out N2.out.tr (RdE.below R0.out K2.out.bel rfl) (RdE.below R1.out K2.out.bel rfl) (by simp [hxt])).mono ?_; rintro e wB ⟨rfl, hbB⟩
                    obtain ⟨⟨b0, b1, b2, b3⟩, -⟩ := (X11.out.call hbB).c4
                    go_wp2_with fail
                    subst hxt
                    exact bodyPost_ret (v := .tuple #[.slice ag wd.length cg, .bool true]) (by simp [results, Try.results21, go_sem]) rfl ⟨⟨_, _, some wd, rfl, HQ.out.found PX.out hlt, .inr ⟨wd, rfl, rfl, (N2.out.call hbB).g⟩⟩, (K2.out.call hbB).bel⟩
                  · refine (eq_tr (b := false) HX.out N2.out.tr (RdE.below R0.out K2.out.bel rfl) (RdE.below R1.out K2.out.bel rfl) (by simp [hxt])).mono ?_; rintro e wB ⟨rfl, hbB⟩
                    have K3 := Lib.hid (K2.out.call hbB)
                    have N3 := Lib.hid (N2.out.call hbB)
                    have X12 := Lib.hid (X11.out.call hbB)
                    clear K2 N2 X11 hbB
                    go_wp2_with fail
                    go_loopw [9, 68] (fun s9 s68 wy => ∃ (j : Nat) (P2 : List (TT × List Nat)) (M2 : List NodeV), s68 = .int .i64 (j : Int) ∧ j ≤ KK n ∧ Hid (PlQ n t d N i j pre P P2) ∧ Hid (KS n w wy (.slice A n cA) (.slice A2 n cB) (.slice aL (KK n) cL) B (pre ++ P ++ P2) (.slice (some ⟨gV, 0, none⟩) P.length cV) s9 M M2 P P2) ∧ Hid (Nd wy n (x, wd) ⟨.slice ax n cx, .slice az n cz, .slice ag wd.length cg⟩) ∧ Hid (Bw wy g11 [.int .i64 (n : Int), .slice ax n cx, .slice az n cz, .slice ag wd.length cg]) ∧ s9.ownBlock ≠ some g11) (fun _ s68 _ => KK n - (intOf s68).toNat)
                    case atStart => exact ⟨0, P2, M2, rfl, Nat.zero_le _, HQ, K3, N3, X12, G11⟩
                    case round =>
                      clear K3 N3 X12 HQ G11 R0 R1
                      clear M2 P2
                      obtain ⟨j, P2, M2, rfl, hj, HQ, HK, HN, X11, G11⟩ := hrel
                      have hK6 := KK_le n
                      by_cases hlt3 : j < KK n
                      · have i3 : (j : Int) < (KK n : Int) := by omega
                        obtain ⟨gL, k9, a9, b9, hL9, rfl, gL2, e0, e1, e2⟩ := letter_at HK.out.lts hlt3
                        have HL9 := Lib.hid hL9
                        clear hL9
                        go_wp2_with fail
                        have hbA := (show Below wr.heap.size wr (wr.alloc (.cells #[.int .i64 (k9 : Int), .int .i64 (a9 : Int), .int .i64 (b9 : Int)] 57)) from (by repeat (first | exact Below.refl _ _ | assumption | refine Below.drew ?_ | refine below_drewN ?_ _ | refine Below.alloc ?_ (by first | omega | (simp <;> omega)) _ | refine Below.setCell ?_ (by first | omega | (simp <;> omega)) _ | refine Below.trans ?_ (Below.mono (by assumption) (by first | omega | (simp <;> omega))))))
                        have K1 := Lib.hid (HK.out.call hbA)
                        have N1 := Lib.hid (HN.out.call hbA)
                        have Y11 := Lib.hid (X11.out.call hbA)
                        have Y13 := Lib.hid (Bw.new wr [.int .i64 (k9 : Int), .int .i64 (a9 : Int), .int .i64 (b9 : Int)] 57 rfl)
                        have G13 : u9.ownBlock ≠ some wr.heap.size := fun e => by have := (HK.out.nxt.lt _ e).2; omega
                        obtain ⟨g13, hg⟩ : ∃ g, wr.heap.size = g := ⟨_, rfl⟩
                        rw [hg] at Y13 G13 ⊢
                        generalize (wr.alloc (.cells #[.int .i64 (k9 : Int), .int .i64 (a9 : Int), .int .i64 (b9 : Int)] 57)) = wz at *
                        have GB13 : g13 ≠ B := K1.out.seen.off_box Y13.out (by simp)
                        clear HK HN X11 e0 e1 e2 gL2 hbA hg
                        go_cut [14] (fun s14 wx => ∃ (g14 : Nat) (p0 p1 : Value), s14 = .pointer (some ⟨g14, 0, none⟩) ∧ wz.heap.size ≤ g14 ∧ Hid (Tr wx n (stT n x j) p0 p1) ∧ Hid (Bt wx g14 30 [.int .i64 (n : Int), p0, p1]) ∧ Hid (Below wz.heap.size wz wx))
                        case first =>
                          have CG := Lib.hid (gate_tr h1 h2 hlt3 HL9.out)
                          have XB := Lib.hid (show Below wz.heap.size wz wz.drew from (by repeat (first | exact Below.refl _ _ | assumption | refine Below.drew ?_ | refine below_drewN ?_ _ | refine Below.alloc ?_ (by first | omega | (simp <;> omega)) _ | refine Below.setCell ?_ (by first | omega | (simp <;> omega)) _ | refine Below.trans ?_ (Below.mono (by assumption) (by first | omega | (simp <;> omega))))))
                          obtain ⟨⟨a0, a1, a2, a3⟩, -⟩ := (Y11.out.callB XB.out Y11.out.lt).c4; obtain ⟨⟨b0, b1, b2⟩, -⟩ := (K1.out.t1.callB XB.out K1.out.t1.lt).c3; obtain ⟨⟨d0, d1, d2⟩, -⟩ := (Y13.out.callB XB.out Y13.out.lt).c3
                          refine AnyB.begin (S := (fun w' => w'.cell? ⟨g11, 0, none⟩ = some (.int .i64 (n : Int)) ∧ w'.cell? ⟨g11, 1, none⟩ = some (.slice ax n cx) ∧ w'.cell? ⟨g11, 2, none⟩ = some (.slice az n cz) ∧ w'.cell? ⟨w.heap.size, 0, none⟩ = some (.int .i64 (n : Int)) ∧ w'.cell? ⟨g13, 0, none⟩ = some (.int .i64 (k9 : Int)) ∧ w'.cell? ⟨g13, 1, none⟩ = some (.int .i64 (a9 : Int)) ∧ w'.cell? ⟨g13, 2, none⟩ = some (.int .i64 (b9 : Int)))) [] (by kernel_rfl) ?_ (fun hHeld0 => ?_)
                          · ((try dsimp only); (exact ⟨a0, a1, a2, b0, d0, d1, d2⟩))
                          refine AnyB.takeQ (i := 0) (oi := _) (v := ?_) (by simp only [List.getElem?_toArray, List.getElem?_cons_zero, List.getElem?_cons_succ]; rfl) (by kernel_rfl) (by kernel_rfl) (by kernel_rfl) (by intro _ _ _ h; exact h) (Or.inl ⟨by rfl, ?_⟩) ?_
                          rotate_left
                          · (intro w hSw; (try dsimp only at hSw); go_simp; (try (with_reducible rfl)))
                          try simp only [Act.put, List.setIfInBounds_toArray, List.set_cons_zero, List.set_cons_succ]
                          refine AnyB.take (i := 1) (oi := _) (v := ?_) (by simp only [List.getElem?_toArray, List.getElem?_cons_zero, List.getElem?_cons_succ]; rfl) (by kernel_rfl) (by kernel_rfl) (by kernel_rfl) (by kernel_rfl) (by kernel_rfl) (by intro _ _ _ h; exact h) (Or.inl ⟨by rfl, ?_⟩) (by assumption) ?_
                          rotate_left
                          · (intro w hSw; (try dsimp only at hSw); go_simp; (try (with_reducible rfl)))
                          try simp only [Act.put, List.setIfInBounds_toArray, List.set_cons_zero, List.set_cons_succ]
                          refine AnyB.takeQ (i := 2) (oi := _) (v := ?_) (by simp only [List.getElem?_toArray, List.getElem?_cons_zero, List.getElem?_cons_succ]; rfl) (by kernel_rfl) (by kernel_rfl) (by kernel_rfl) (by intro _ _ _ h; exact h) (Or.inl ⟨by rfl, ?_⟩) ?_
                          rotate_left
                          · (intro w hSw; (try dsimp only at hSw); go_simp; (try (with_reducible rfl)))
                          try simp only [Act.put, List.setIfInBounds_toArray, List.set_cons_zero, List.set_cons_succ]
                          refine AnyB.take (i := 3) (oi := _) (v := ?_) (by simp only [List.getElem?_toArray, List.getElem?_cons_zero, List.getElem?_cons_succ]; rfl) (by kernel_rfl) (by kernel_rfl) (by kernel_rfl) (by kernel_rfl) (by kernel_rfl) (by intro _ _ _ h; exact h) (Or.inl ⟨by rfl, ?_⟩) (by assumption) ?_
                          rotate_left
                          · (intro w hSw; (try dsimp only at hSw); go_simp; (try (with_reducible rfl)))
                          try simp only [Act.put, List.setIfInBounds_toArray, List.set_cons_zero, List.set_cons_succ]
                          refine AnyB.take (i := 4) (oi := _) (v := ?_) (by simp only [List.getElem?_toArray, List.getElem?_cons_zero, List.getElem?_cons_succ]; rfl) (by kernel_rfl) (by kernel_rfl) (by kernel_rfl) (by kernel_rfl) (by kernel_rfl) (by intro _ _ _ h; exact h) (Or.inl ⟨by rfl, ?_⟩) (by assumption) ?_
                          rotate_left
                          · (intro w hSw; (try dsimp only at hSw); go_simp; (try (with_reducible rfl)))
                          try simp only [Act.put, List.setIfInBounds_toArray, List.set_cons_zero, List.set_cons_succ]
                          refine AnyB.each (rs := [5, 7]) (by kernel_rfl) (by simp) ?_
                          refine EachB.cons rfl (fun K hK hB => ?_) ?_
                          · skip
                            (go_simp; go_at_call 46; refine (CG.out _).mono ?_; rintro e xA ⟨u0, u1, rfl, hu, hxA⟩; replace XB := Lib.hid (Below.trans XB.out (hxA.mono XB.out.size)); have TG := Lib.hid hu; (try (replace BT := Lib.hid (BT.out.call hxA))); clear hu hxA; clear a0 a1 a2 a3 b0 b1 b2 d0 d1 d2; obtain ⟨⟨a0, a1, a2, a3⟩, -⟩ := (Y11.out.callB XB.out Y11.out.lt).c4; obtain ⟨⟨b0, b1, b2⟩, -⟩ := (K1.out.t1.callB XB.out K1.out.t1.lt).c3; obtain ⟨⟨d0, d1, d2⟩, -⟩ := (Y13.out.callB XB.out Y13.out.lt).c3; dsimp only)
                            refine hK.out _ _ ?_ (fun hHeld1 => ?_)
                            · ((try dsimp only); (exact ⟨a0, a1, a2, b0, d0, d1, d2⟩))
                            clear hB hK K hHeld0
                            refine AnyB.each (rs := [6, 7]) (by kernel_rfl) (by simp) ?_
                            refine EachB.cons rfl (fun K hK hB => ?_) ?_
                            · skip
                              (go_simp; go_at_call 45; refine (step_tr h1 h2 hlt3 HX.out (N1.out.tr.call XB.out) TG.out).mono ?_; rintro e xC ⟨p0, p1, rfl, hu, hxC⟩; replace XB := Lib.hid (Below.trans XB.out (hxC.mono XB.out.size)); obtain ⟨ap0, cp0, rfl⟩ := own_form hu.rx; obtain ⟨ap1, cp1, rfl⟩ := own_form hu.rz; have TC := Lib.hid hu; (try (replace BT := Lib.hid (BT.out.call hxC))); clear hu hxC TG; clear a0 a1 a2 a3 b0 b1 b2 d0 d1 d2; obtain ⟨⟨a0, a1, a2, a3⟩, -⟩ := (Y11.out.callB XB.out Y11.out.lt).c4; obtain ⟨⟨b0, b1, b2⟩, -⟩ := (K1.out.t1.callB XB.out K1.out.t1.lt).c3; obtain ⟨⟨d0, d1, d2⟩, -⟩ := (Y13.out.callB XB.out Y13.out.lt).c3; dsimp only)
                              refine hK.out _ _ ?_ (fun hHeld2 => ?_)
                              · ((try dsimp only); (exact ⟨a0, a1, a2, b0, d0, d1, d2⟩))
                              clear hB hK K hHeld1
                              refine AnyB.each (rs := [7]) (by kernel_rfl) (by simp) ?_
                              refine EachB.cons rfl (fun K hK hB => ?_) ?_
                              · skip
                                (go_simp; (first | (obtain ⟨g14, hg14⟩ : ∃ g, xC.heap.size = g := ⟨_, rfl⟩; have hbC := (show Below xC.heap.size xC (xC.alloc (.cells #[.int .i64 0, .slice none 0 0, .slice none 0 0] 30)) from (by repeat (first | exact Below.refl _ _ | assumption | refine Below.drew ?_ | refine below_drewN ?_ _ | refine Below.alloc ?_ (by first | omega | (simp <;> omega)) _ | refine Below.setCell ?_ (by first | omega | (simp <;> omega)) _ | refine Below.trans ?_ (Below.mono (by assumption) (by first | omega | (simp <;> omega)))))); have G14 : wz.heap.size ≤ g14 := (by have := XB.out.size; omega); replace XB := Lib.hid (Below.trans XB.out (hbC.mono XB.out.size)); replace TC := Lib.hid (TC.out.call hbC); have BT := Lib.hid (Bt.new xC [.int .i64 0, .slice none 0 0, .slice none 0 0] 30 hg14); rw [hg14]; generalize xC.alloc (.cells #[.int .i64 0, .slice none 0 0, .slice none 0 0] 30) = xD at *; clear hg14 hbC) | (obtain ⟨g14, hg14⟩ : ∃ g, xA.heap.size = g := ⟨_, rfl⟩; have hbC := (show Below xA.heap.size xA (xA.alloc (.cells #[.int .i64 0, .slice none 0 0, .slice none 0 0] 30)) from (by repeat (first | exact Below.refl _ _ | assumption | refine Below.drew ?_ | refine below_drewN ?_ _ | refine Below.alloc ?_ (by first | omega | (simp <;> omega)) _ | refine Below.setCell ?_ (by first | omega | (simp <;> omega)) _ | refine Below.trans ?_ (Below.mono (by assumption) (by first | omega | (simp <;> omega)))))); have G14 : wz.heap.size ≤ g14 := (by have := XB.out.size; omega); replace XB := Lib.hid (Below.trans XB.out (hbC.mono XB.out.size)); replace TG := Lib.hid (TG.out.call hbC); have BT := Lib.hid (Bt.new xA [.int .i64 0, .slice none 0 0, .slice none 0 0] 30 hg14); rw [hg14]; generalize xA.alloc (.cells #[.int .i64 0, .slice none 0 0, .slice none 0 0] 30) = xD at *; clear hg14 hbC) | (obtain ⟨g14, hg14⟩ : ∃ g, wz.heap.size = g := ⟨_, rfl⟩; have G14 : wz.heap.size ≤ g14 := (by omega); replace XB := Lib.hid (show Below wz.heap.size wz ((wz.alloc (.cells #[.int .i64 0, .slice none 0 0, .slice none 0 0] 30)).drew) from (by repeat (first | exact Below.refl _ _ | assumption | refine Below.drew ?_ | refine below_drewN ?_ _ | refine Below.alloc ?_ (by first | omega | (simp <;> omega)) _ | refine Below.setCell ?_ (by first | omega | (simp <;> omega)) _ | refine Below.trans ?_ (Below.mono (by assumption) (by first | omega | (simp <;> omega)))))); have BT := Lib.hid ((Bt.new wz [.int .i64 0, .slice none 0 0, .slice none 0 0] 30 hg14).drew); rw [hg14]; generalize (wz.alloc (.cells #[.int .i64 0, .slice none 0 0, .slice none 0 0] 30)).drew = xD at *; clear hg14)); clear a0 a1 a2 a3 b0 b1 b2 d0 d1 d2; obtain ⟨⟨a0, a1, a2, a3⟩, -⟩ := (Y11.out.callB XB.out Y11.out.lt).c4; obtain ⟨⟨b0, b1, b2⟩, -⟩ := (K1.out.t1.callB XB.out K1.out.t1.lt).c3; obtain ⟨⟨d0, d1, d2⟩, -⟩ := (Y13.out.callB XB.out Y13.out.lt).c3)
                                refine hK.out _ _ ?_ (fun hHeld3 => ?_)
                                · ((try dsimp only); (exact ⟨a0, a1, a2, b0, d0, d1, d2⟩))
                                clear hB hK K hHeld2
                                refine AnyB.each (rs := [8]) (by kernel_rfl) (by simp) ?_
                                refine EachB.cons rfl (fun K hK hB => ?_) ?_
                                · skip
                                  (obtain ⟨⟨y0, y1, y2⟩, q0, q1, q2⟩ := BT.out.bw.c3; go_simp; clear y0 y1 y2 q0 q1 q2; obtain ⟨TCn, BTn, XBn⟩ := store_tr TC.out BT.out XB.out G14; (try dsimp only at TCn BTn XBn); replace TC := Lib.hid TCn; replace BT := Lib.hid BTn; replace XB := Lib.hid XBn; clear TCn BTn XBn; clear a0 a1 a2 a3 b0 b1 b2 d0 d1 d2; obtain ⟨⟨a0, a1, a2, a3⟩, -⟩ := (Y11.out.callB XB.out Y11.out.lt).c4; obtain ⟨⟨b0, b1, b2⟩, -⟩ := (K1.out.t1.callB XB.out K1.out.t1.lt).c3; obtain ⟨⟨d0, d1, d2⟩, -⟩ := (Y13.out.callB XB.out Y13.out.lt).c3)
                                  refine hK.out _ _ ?_ (fun hHeld4 => ?_)
                                  · ((try dsimp only); (exact ⟨a0, a1, a2, b0, d0, d1, d2⟩))
                                  clear hB hK K hHeld3
                                  refine AnyB.none (by kernel_rfl) ?_ _
                                  go_wp2_with fail
                                  go_meet
                                  exact ⟨g14, _, _, rfl, G14, TC, BT, XB⟩
                                exact EachB.nil
                              exact EachB.nil
                            refine EachB.cons rfl (fun K hK hB => ?_) ?_
                            · skip
                              (go_simp; (first | (obtain ⟨g14, hg14⟩ : ∃ g, xC.heap.size = g := ⟨_, rfl⟩; have hbC := (show Below xC.heap.size xC (xC.alloc (.cells #[.int .i64 0, .slice none 0 0, .slice none 0 0] 30)) from (by repeat (first | exact Below.refl _ _ | assumption | refine Below.drew ?_ | refine below_drewN ?_ _ | refine Below.alloc ?_ (by first | omega | (simp <;> omega)) _ | refine Below.setCell ?_ (by first | omega | (simp <;> omega)) _ | refine Below.trans ?_ (Below.mono (by assumption) (by first | omega | (simp <;> omega)))))); have G14 : wz.heap.size ≤ g14 := (by have := XB.out.size; omega); replace XB := Lib.hid (Below.trans XB.out (hbC.mono XB.out.size)); replace TC := Lib.hid (TC.out.call hbC); have BT := Lib.hid (Bt.new xC [.int .i64 0, .slice none 0 0, .slice none 0 0] 30 hg14); rw [hg14]; generalize xC.alloc (.cells #[.int .i64 0, .slice none 0 0, .slice none 0 0] 30) = xD at *; clear hg14 hbC) | (obtain ⟨g14, hg14⟩ : ∃ g, xA.heap.size = g := ⟨_, rfl⟩; have hbC := (show Below xA.heap.size xA (xA.alloc (.cells #[.int .i64 0, .slice none 0 0, .slice none 0 0] 30)) from (by repeat (first | exact Below.refl _ _ | assumption | refine Below.drew ?_ | refine below_drewN ?_ _ | refine Below.alloc ?_ (by first | omega | (simp <;> omega)) _ | refine Below.setCell ?_ (by first | omega | (simp <;> omega)) _ | refine Below.trans ?_ (Below.mono (by assumption) (by first | omega | (simp <;> omega)))))); have G14 : wz.heap.size ≤ g14 := (by have := XB.out.size; omega); replace XB := Lib.hid (Below.trans XB.out (hbC.mono XB.out.size)); replace TG := Lib.hid (TG.out.call hbC); have BT := Lib.hid (Bt.new xA [.int .i64 0, .slice none 0 0, .slice none 0 0] 30 hg14); rw [hg14]; generalize xA.alloc (.cells #[.int .i64 0, .slice none 0 0, .slice none 0 0] 30) = xD at *; clear hg14 hbC) | (obtain ⟨g14, hg14⟩ : ∃ g, wz.heap.size = g := ⟨_, rfl⟩; have G14 : wz.heap.size ≤ g14 := (by omega); replace XB := Lib.hid (show Below wz.heap.size wz ((wz.alloc (.cells #[.int .i64 0, .slice none 0 0, .slice none 0 0] 30)).drew) from (by repeat (first | exact Below.refl _ _ | assumption | refine Below.drew ?_ | refine below_drewN ?_ _ | refine Below.alloc ?_ (by first | omega | (simp <;> omega)) _ | refine Below.setCell ?_ (by first | omega | (simp <;> omega)) _ | refine Below.trans ?_ (Below.mono (by assumption) (by first | omega | (simp <;> omega)))))); have BT := Lib.hid ((Bt.new wz [.int .i64 0, .slice none 0 0, .slice none 0 0] 30 hg14).drew); rw [hg14]; generalize (wz.alloc (.cells #[.int .i64 0, .slice none 0 0, .slice none 0 0] 30)).drew = xD at *; clear hg14)); clear a0 a1 a2 a3 b0 b1 b2 d0 d1 d2; obtain ⟨⟨a0, a1, a2, a3⟩, -⟩ := (Y11.out.callB XB.out Y11.out.lt).c4; obtain ⟨⟨b0, b1, b2⟩, -⟩ := (K1.out.t1.callB XB.out K1.out.t1.lt).c3; obtain ⟨⟨d0, d1, d2⟩, -⟩ := (Y13.out.callB XB.out Y13.out.lt).c3)
                              refine hK.out _ _ ?_ (fun hHeld5 => ?_)
                              · ((try dsimp only); (exact ⟨a0, a1, a2, b0, d0, d1, d2⟩))
                              clear hB hK K hHeld1
                              refine AnyB.each (rs := [6]) (by kernel_rfl) (by simp) ?_
                              refine EachB.cons rfl (fun K hK hB => ?_) ?_
                              · skip
                                (go_simp; go_at_call 45; refine (step_tr h1 h2 hlt3 HX.out (N1.out.tr.call XB.out) TG.out).mono ?_; rintro e xC ⟨p0, p1, rfl, hu, hxC⟩; replace XB := Lib.hid (Below.trans XB.out (hxC.mono XB.out.size)); obtain ⟨ap0, cp0, rfl⟩ := own_form hu.rx; obtain ⟨ap1, cp1, rfl⟩ := own_form hu.rz; have TC := Lib.hid hu; (try (replace BT := Lib.hid (BT.out.call hxC))); clear hu hxC TG; clear a0 a1 a2 a3 b0 b1 b2 d0 d1 d2; obtain ⟨⟨a0, a1, a2, a3⟩, -⟩ := (Y11.out.callB XB.out Y11.out.lt).c4; obtain ⟨⟨b0, b1, b2⟩, -⟩ := (K1.out.t1.callB XB.out K1.out.t1.lt).c3; obtain ⟨⟨d0, d1, d2⟩, -⟩ := (Y13.out.callB XB.out Y13.out.lt).c3; dsimp only)
                                refine hK.out _ _ ?_ (fun hHeld6 => ?_)
                                · ((try dsimp only); (exact ⟨a0, a1, a2, b0, d0, d1, d2⟩))
                                clear hB hK K hHeld5
                                refine AnyB.each (rs := [8]) (by kernel_rfl) (by simp) ?_
                                refine EachB.cons rfl (fun K hK hB => ?_) ?_
                                · skip
                                  (obtain ⟨⟨y0, y1, y2⟩, q0, q1, q2⟩ := BT.out.bw.c3; go_simp; clear y0 y1 y2 q0 q1 q2; obtain ⟨TCn, BTn, XBn⟩ := store_tr TC.out BT.out XB.out G14; (try dsimp only at TCn BTn XBn); replace TC := Lib.hid TCn; replace BT := Lib.hid BTn; replace XB := Lib.hid XBn; clear TCn BTn XBn; clear a0 a1 a2 a3 b0 b1 b2 d0 d1 d2; obtain ⟨⟨a0, a1, a2, a3⟩, -⟩ := (Y11.out.callB XB.out Y11.out.lt).c4; obtain ⟨⟨b0, b1, b2⟩, -⟩ := (K1.out.t1.callB XB.out K1.out.t1.lt).c3; obtain ⟨⟨d0, d1, d2⟩, -⟩ := (Y13.out.callB XB.out Y13.out.lt).c3)
                                  refine hK.out _ _ ?_ (fun hHeld7 => ?_)
                                  · ((try dsimp only); (exact ⟨a0, a1, a2, b0, d0, d1, d2⟩))
                                  clear hB hK K hHeld6
                                  refine AnyB.none (by kernel_rfl) ?_ _
                                  go_wp2_with fail
                                  go_meet
                                  exact ⟨g14, _, _, rfl, G14, TC, BT, XB⟩
                                exact EachB.nil
                              exact EachB.nil
                            exact EachB.nil
                          refine EachB.cons rfl (fun K hK hB => ?_) ?_
                          · skip
                            (go_simp; (first | (obtain ⟨g14, hg14⟩ : ∃ g, xC.heap.size = g := ⟨_, rfl⟩; have hbC := (show Below xC.heap.size xC (xC.alloc (.cells #[.int .i64 0, .slice none 0 0, .slice none 0 0] 30)) from (by repeat (first | exact Below.refl _ _ | assumption | refine Below.drew ?_ | refine below_drewN ?_ _ | refine Below.alloc ?_ (by first | omega | (simp <;> omega)) _ | refine Below.setCell ?_ (by first | omega | (simp <;> omega)) _ | refine Below.trans ?_ (Below.mono (by assumption) (by first | omega | (simp <;> omega)))))); have G14 : wz.heap.size ≤ g14 := (by have := XB.out.size; omega); replace XB := Lib.hid (Below.trans XB.out (hbC.mono XB.out.size)); replace TC := Lib.hid (TC.out.call hbC); have BT := Lib.hid (Bt.new xC [.int .i64 0, .slice none 0 0, .slice none 0 0] 30 hg14); rw [hg14]; generalize xC.alloc (.cells #[.int .i64 0, .slice none 0 0, .slice none 0 0] 30) = xD at *; clear hg14 hbC) | (obtain ⟨g14, hg14⟩ : ∃ g, xA.heap.size = g := ⟨_, rfl⟩; have hbC := (show Below xA.heap.size xA (xA.alloc (.cells #[.int .i64 0, .slice none 0 0, .slice none 0 0] 30)) from (by repeat (first | exact Below.refl _ _ | assumption | refine Below.drew ?_ | refine below_drewN ?_ _ | refine Below.alloc ?_ (by first | omega | (simp <;> omega)) _ | refine Below.setCell ?_ (by first | omega | (simp <;> omega)) _ | refine Below.trans ?_ (Below.mono (by assumption) (by first | omega | (simp <;> omega)))))); have G14 : wz.heap.size ≤ g14 := (by have := XB.out.size; omega); replace XB := Lib.hid (Below.trans XB.out (hbC.mono XB.out.size)); replace TG := Lib.hid (TG.out.call hbC); have BT := Lib.hid (Bt.new xA [.int .i64 0, .slice none 0 0, .slice none 0 0] 30 hg14); rw [hg14]; generalize xA.alloc (.cells #[.int .i64 0, .slice none 0 0, .slice none 0 0] 30) = xD at *; clear hg14 hbC) | (obtain ⟨g14, hg14⟩ : ∃ g, wz.heap.size = g := ⟨_, rfl⟩; have G14 : wz.heap.size ≤ g14 := (by omega); replace XB := Lib.hid (show Below wz.heap.size wz ((wz.alloc (.cells #[.int .i64 0, .slice none 0 0, .slice none 0 0] 30)).drew) from (by repeat (first | exact Below.refl _ _ | assumption | refine Below.drew ?_ | refine below_drewN ?_ _ | refine Below.alloc ?_ (by first | omega | (simp <;> omega)) _ | refine Below.setCell ?_ (by first | omega | (simp <;> omega)) _ | refine Below.trans ?_ (Below.mono (by assumption) (by first | omega | (simp <;> omega)))))); have BT := Lib.hid ((Bt.new wz [.int .i64 0, .slice none 0 0, .slice none 0 0] 30 hg14).drew); rw [hg14]; generalize (wz.alloc (.cells #[.int .i64 0, .slice none 0 0, .slice none 0 0] 30)).drew = xD at *; clear hg14)); clear a0 a1 a2 a3 b0 b1 b2 d0 d1 d2; obtain ⟨⟨a0, a1, a2, a3⟩, -⟩ := (Y11.out.callB XB.out Y11.out.lt).c4; obtain ⟨⟨b0, b1, b2⟩, -⟩ := (K1.out.t1.callB XB.out K1.out.t1.lt).c3; obtain ⟨⟨d0, d1, d2⟩, -⟩ := (Y13.out.callB XB.out Y13.out.lt).c3)
                            refine hK.out _ _ ?_ (fun hHeld8 => ?_)
                            · ((try dsimp only); (exact ⟨a0, a1, a2, b0, d0, d1, d2⟩))
                            clear hB hK K hHeld0
                            refine AnyB.each (rs := [5]) (by kernel_rfl) (by simp) ?_
                            refine EachB.cons rfl (fun K hK hB => ?_) ?_
                            · skip
                              (go_simp; go_at_call 46; refine (CG.out _).mono ?_; rintro e xA ⟨u0, u1, rfl, hu, hxA⟩; replace XB := Lib.hid (Below.trans XB.out (hxA.mono XB.out.size)); have TG := Lib.hid hu; (try (replace BT := Lib.hid (BT.out.call hxA))); clear hu hxA; clear a0 a1 a2 a3 b0 b1 b2 d0 d1 d2; obtain ⟨⟨a0, a1, a2, a3⟩, -⟩ := (Y11.out.callB XB.out Y11.out.lt).c4; obtain ⟨⟨b0, b1, b2⟩, -⟩ := (K1.out.t1.callB XB.out K1.out.t1.lt).c3; obtain ⟨⟨d0, d1, d2⟩, -⟩ := (Y13.out.callB XB.out Y13.out.lt).c3; dsimp only)
                              refine hK.out _ _ ?_ (fun hHeld9 => ?_)
                              · ((try dsimp only); (exact ⟨a0, a1, a2, b0, d0, d1, d2⟩))
                              clear hB hK K hHeld8
                              refine AnyB.each (rs := [6]) (by kernel_rfl) (by simp) ?_
                              refine EachB.cons rfl (fun K hK hB => ?_) ?_
                              · skip
                                (go_simp; go_at_call 45; refine (step_tr h1 h2 hlt3 HX.out (N1.out.tr.call XB.out) TG.out).mono ?_; rintro e xC ⟨p0, p1, rfl, hu, hxC⟩; replace XB := Lib.hid (Below.trans XB.out (hxC.mono XB.out.size)); obtain ⟨ap0, cp0, rfl⟩ := own_form hu.rx; obtain ⟨ap1, cp1, rfl⟩ := own_form hu.rz; have TC := Lib.hid hu; (try (replace BT := Lib.hid (BT.out.call hxC))); clear hu hxC TG; clear a0 a1 a2 a3 b0 b1 b2 d0 d1 d2; obtain ⟨⟨a0, a1, a2, a3⟩, -⟩ := (Y11.out.callB XB.out Y11.out.lt).c4; obtain ⟨⟨b0, b1, b2⟩, -⟩ := (K1.out.t1.callB XB.out K1.out.t1.lt).c3; obtain ⟨⟨d0, d1, d2⟩, -⟩ := (Y13.out.callB XB.out Y13.out.lt).c3; dsimp only)
                                refine hK.out _ _ ?_ (fun hHeld10 => ?_)
                                · ((try dsimp only); (exact ⟨a0, a1, a2, b0, d0, d1, d2⟩))
                                clear hB hK K hHeld9
                                refine AnyB.each (rs := [8]) (by kernel_rfl) (by simp) ?_
                                refine EachB.cons rfl (fun K hK hB => ?_) ?_
                                · skip
                                  (obtain ⟨⟨y0, y1, y2⟩, q0, q1, q2⟩ := BT.out.bw.c3; go_simp; clear y0 y1 y2 q0 q1 q2; obtain ⟨TCn, BTn, XBn⟩ := store_tr TC.out BT.out XB.out G14; (try dsimp only at TCn BTn XBn); replace TC := Lib.hid TCn; replace BT := Lib.hid BTn; replace XB := Lib.hid XBn; clear TCn BTn XBn; clear a0 a1 a2 a3 b0 b1 b2 d0 d1 d2; obtain ⟨⟨a0, a1, a2, a3⟩, -⟩ := (Y11.out.callB XB.out Y11.out.lt).c4; obtain ⟨⟨b0, b1, b2⟩, -⟩ := (K1.out.t1.callB XB.out K1.out.t1.lt).c3; obtain ⟨⟨d0, d1, d2⟩, -⟩ := (Y13.out.callB XB.out Y13.out.lt).c3)
                                  refine hK.out _ _ ?_ (fun hHeld11 => ?_)
                                  · ((try dsimp only); (exact ⟨a0, a1, a2, b0, d0, d1, d2⟩))
                                  clear hB hK K hHeld10
                                  refine AnyB.none (by kernel_rfl) ?_ _
                                  go_wp2_with fail
                                  go_meet
                                  exact ⟨g14, _, _, rfl, G14, TC, BT, XB⟩
                                exact EachB.nil
                              exact EachB.nil
                            exact EachB.nil
                          exact EachB.nil
                        case rest =>
                          obtain ⟨g14, p0, p1, rfl, G14, TC, BT, XB⟩ := hcut
                          have K4 := Lib.hid (K1.out.call XB.out)
                          have N4 := Lib.hid (N1.out.call XB.out)
                          have Z11 := Lib.hid (Y11.out.callB XB.out Y11.out.lt)
                          have Z13 := Lib.hid (Y13.out.callB XB.out Y13.out.lt)
                          have G14n : u9.ownBlock ≠ some g14 := fun e => by have := (K1.out.nxt.lt _ e).2; omega
                          have GB14 : g14 ≠ B := K4.out.seen.off_box BT.out.bw (by simp)
                          obtain ⟨ap0, cp0, rfl⟩ := own_form TC.out.rx
                          obtain ⟨ap1, cp1, rfl⟩ := own_form TC.out.rz
                          clear K1 N1 Y11 Y13 XB G14
                          have HS := Lib.hid (step_sym h1 h2 hlt3 HX.out)
                          obtain ⟨l5, hl5⟩ := key_lit h2 HS.out
                          obtain ⟨⟨y0, y1, y2⟩, -⟩ := BT.out.bw.c3
                          go_wp2_with fail
                          clear y0 y1 y2
                          refine (key_tr h1 h2 HS.out TC.out).mono ?_; rintro e w5 ⟨rfl, hb5⟩
                          replace K4 := Lib.hid (K4.out.call hb5); replace N4 := Lib.hid (N4.out.call hb5); replace Z11 := Lib.hid (Z11.out.call hb5); replace Z13 := Lib.hid (Z13.out.call hb5); replace TC := Lib.hid (TC.out.call hb5); replace BT := Lib.hid (BT.out.call hb5)
                          clear hb5
                          have KM := kys_mem h1 h2 HQ.out.inv HS.out
                          by_cases hin : ∃ q ∈ pre ++ P ++ P2, q.1 = stT n x j
                          · have hrun := K4.out.seen.look hl5 (b := true) (by rw [KM]; simp only [true_iff]; exact hin)
                            clear KM
                            go_wp2_with fail
                            go_roundw
                            case rel => exact ⟨j + 1, P2, M2, by go_num, by omega, (show PlQ _ _ _ _ _ _ _ _ _ from HQ.out.old PX.out hin), K4, N4, Z11, G11⟩
                            case measure => simp [intOf]; omega
                          · have hrun := K4.out.seen.look hl5 (b := false) (by rw [KM]; simp only [Bool.false_eq_true, false_iff]; exact hin)
                            clear KM
                            obtain ⟨⟨y0, y1, y2⟩, -⟩ := BT.out.bw.c3
                            go_wp2_with fail
                            clear y0 y1 y2 hrun
                            refine (key_tr h1 h2 HS.out TC.out).mono ?_; rintro e w6 ⟨rfl, hb6⟩
                            replace K4 := Lib.hid (K4.out.call hb6); replace N4 := Lib.hid (N4.out.call hb6); replace Z11 := Lib.hid (Z11.out.call hb6); replace Z13 := Lib.hid (Z13.out.call hb6); replace TC := Lib.hid (TC.out.call hb6); replace BT := Lib.hid (BT.out.call hb6)
                            clear hb6
                            have hQL := HQ.out.len h1 h2
                            obtain ⟨w7, hrun7, hs7, hg7⟩ := K4.out.seen.put hl5 (show (pre ++ P ++ P2).length < maxLen by simp only [List.length_append]; unfold maxLen; omega)
                            have K7 := Lib.hid (K4.out.put (p := (stT n x j, wd ++ [j])) hs7 hg7)
                            replace N4 := Lib.hid (N4.out.kept hg7 (map_no_cells K4.out.seen)); replace TC := Lib.hid (TC.out.kept hg7 (map_no_cells K4.out.seen)); replace Z11 := Lib.hid (Z11.out.kept hg7 (fun e => GB (by injection e))); replace Z13 := Lib.hid (Z13.out.kept hg7 (fun e => GB13 (by injection e))); replace BT := Lib.hid (BT.out.kept hg7 (fun e => GB14 (by injection e)))
                            clear K4 hs7 hg7 hl5
                            go_wp2_with fail
                            clear hrun7
                            have hwl : wd.length ≤ 1048576 := by have := HQ.out.here _ (List.mem_of_getElem? PX.out); simp at this; omega
                            have h1R : ∀ u ∈ [Value.int .i64 (k9 : Int), .int .i64 (a9 : Int), .int .i64 (b9 : Int)], u.oneCell' = true := fun u hu => by simp at hu; rcases hu with rfl | rfl | rfl <;> rfl
                            have h1N : ∀ (a8 : Option Addr) (l c8 : Nat), ∀ u ∈ [Value.int .i64 (n : Int), .slice ap0 n cp0, .slice ap1 n cp1, .slice a8 l c8], u.oneCell' = true := fun _ _ _ u hu => by simp at hu; rcases hu with rfl | rfl | rfl | rfl <;> rfl
                            have XB := Lib.hid (show Below w7.heap.size w7 w7.drew from (by repeat (first | exact Below.refl _ _ | assumption | refine Below.drew ?_ | refine below_drewN ?_ _ | refine Below.alloc ?_ (by first | omega | (simp <;> omega)) _ | refine Below.setCell ?_ (by first | omega | (simp <;> omega)) _ | refine Below.trans ?_ (Below.mono (by assumption) (by first | omega | (simp <;> omega))))))
                            obtain ⟨⟨a0, a1, a2, a3⟩, -⟩ := (Z11.out.callB XB.out Z11.out.lt).c4; obtain ⟨⟨b0, b1, b2⟩, -⟩ := (BT.out.bw.callB XB.out BT.out.bw.lt).c3; obtain ⟨⟨d0, d1, d2⟩, -⟩ := (Z13.out.callB XB.out Z13.out.lt).c3
                            refine AnyB.begin (S := (fun w' => w'.cell? ⟨g11, 3, none⟩ = some (.slice ag wd.length cg) ∧ w'.cell? ⟨g14, 0, none⟩ = some (.int .i64 (n : Int)) ∧ w'.cell? ⟨g14, 1, none⟩ = some (.slice ap0 n cp0) ∧ w'.cell? ⟨g14, 2, none⟩ = some (.slice ap1 n cp1) ∧ w'.cell? ⟨g13, 0, none⟩ = some (.int .i64 (k9 : Int)) ∧ w'.cell? ⟨g13, 1, none⟩ = some (.int .i64 (a9 : Int)) ∧ w'.cell? ⟨g13, 2, none⟩ = some (.int .i64 (b9 : Int)))) [10] (by kernel_rfl) ?_ (fun hHeld0 => ?_)
                            · ((try dsimp only); (exact ⟨a3, b0, b1, b2, d0, d1, d2⟩))
                            refine AnyB.takeQ (i := 0) (oi := _) (v := ?_) (by simp only [List.getElem?_toArray, List.getElem?_cons_zero, List.getElem?_cons_succ]; rfl) (by kernel_rfl) (by kernel_rfl) (by kernel_rfl) (by intro _ _ _ h; exact h) (Or.inl ⟨by rfl, ?_⟩) ?_
                            rotate_left
                            · (intro w hSw; (try dsimp only at hSw); go_simp; (try (with_reducible rfl)))
                            try simp only [Act.put, List.setIfInBounds_toArray, List.set_cons_zero, List.set_cons_succ]
                            refine AnyB.take (i := 1) (oi := _) (v := ?_) (by simp only [List.getElem?_toArray, List.getElem?_cons_zero, List.getElem?_cons_succ]; rfl) (by kernel_rfl) (by kernel_rfl) (by kernel_rfl) (by kernel_rfl) (by kernel_rfl) (by intro _ _ _ h; exact h) (Or.inl ⟨by rfl, ?_⟩) (by assumption) ?_
                            rotate_left
                            · (intro w hSw; (try dsimp only at hSw); go_simp; (try (with_reducible rfl)))
                            try simp only [Act.put, List.setIfInBounds_toArray, List.set_cons_zero, List.set_cons_succ]
                            refine AnyB.takeQ (i := 2) (oi := _) (v := ?_) (by simp only [List.getElem?_toArray, List.getElem?_cons_zero, List.getElem?_cons_succ]; rfl) (by kernel_rfl) (by kernel_rfl) (by kernel_rfl) (by intro _ _ _ h; exact h) (Or.inl ⟨by rfl, ?_⟩) ?_
                            rotate_left
                            · (intro w hSw; (try dsimp only at hSw); go_simp; (try (with_reducible rfl)))
                            try simp only [Act.put, List.setIfInBounds_toArray, List.set_cons_zero, List.set_cons_succ]
                            refine AnyB.take (i := 3) (oi := _) (v := ?_) (by simp only [List.getElem?_toArray, List.getElem?_cons_zero, List.getElem?_cons_succ]; rfl) (by kernel_rfl) (by kernel_rfl) (by kernel_rfl) (by kernel_rfl) (by kernel_rfl) (by intro _ _ _ h; exact h) (Or.inl ⟨by rfl, ?_⟩) (by assumption) ?_
                            rotate_left
                            · (intro w hSw; (try dsimp only at hSw); go_simp; (try (with_reducible rfl)))
                            try simp only [Act.put, List.setIfInBounds_toArray, List.set_cons_zero, List.set_cons_succ]
                            refine AnyB.take (i := 5) (oi := _) (v := ?_) (by simp only [List.getElem?_toArray, List.getElem?_cons_zero, List.getElem?_cons_succ]; rfl) (by kernel_rfl) (by kernel_rfl) (by kernel_rfl) (by kernel_rfl) (by kernel_rfl) (by intro _ _ _ h; exact h) (Or.inl ⟨by rfl, ?_⟩) (by assumption) ?_
                            rotate_left
                            · (intro w hSw; (try dsimp only at hSw); go_simp; (try (with_reducible rfl)))
                            try simp only [Act.put, List.setIfInBounds_toArray, List.set_cons_zero, List.set_cons_succ]
                            refine AnyB.each (rs := [4, 6]) (by kernel_rfl) (by simp) ?_
                            refine EachB.cons rfl (fun K hK hB => ?_) ?_
                            · skip
                              (go_simp; go_at_call 47; refine (clone_g (n := n) (L := wd) ((N4.out.call XB.out).g) hwl).mono ?_; rintro e xA ⟨vK, rfl, hK, hxA⟩; obtain ⟨aK, cK, rfl⟩ := own_form hK; have HKr := Lib.hid (own_le hK XB.out.size); replace XB := Lib.hid (Below.trans XB.out (hxA.mono XB.out.size)); (try (replace RL := Lib.hid (RL.out.call hxA))); clear hK hxA; clear a0 a1 a2 a3 b0 b1 b2 d0 d1 d2; obtain ⟨⟨a0, a1, a2, a3⟩, -⟩ := (Z11.out.callB XB.out Z11.out.lt).c4; obtain ⟨⟨b0, b1, b2⟩, -⟩ := (BT.out.bw.callB XB.out BT.out.bw.lt).c3; obtain ⟨⟨d0, d1, d2⟩, -⟩ := (Z13.out.callB XB.out Z13.out.lt).c3; dsimp only)
                              refine hK.out _ _ ?_ (fun hHeld1 => ?_)
                              · ((try dsimp only); (exact ⟨a3, b0, b1, b2, d0, d1, d2⟩))
                              clear hB hK K hHeld0
                              refine AnyB.each (rs := [6]) (by kernel_rfl) (by simp) ?_
                              refine EachB.cons rfl (fun K hK hB => ?_) ?_
                              · skip
                                (go_simp; (first | (obtain ⟨gR, hgR⟩ : ∃ g, xA.heap.size = g := ⟨_, rfl⟩; have hbC := (show Below xA.heap.size xA (xA.alloc (.cells #[.int .i64 (k9 : Int), .int .i64 (a9 : Int), .int .i64 (b9 : Int)] 57)) from (by repeat (first | exact Below.refl _ _ | assumption | refine Below.drew ?_ | refine below_drewN ?_ _ | refine Below.alloc ?_ (by first | omega | (simp <;> omega)) _ | refine Below.setCell ?_ (by first | omega | (simp <;> omega)) _ | refine Below.trans ?_ (Below.mono (by assumption) (by first | omega | (simp <;> omega)))))); replace XB := Lib.hid (Below.trans XB.out (hbC.mono XB.out.size)); replace HKr := Lib.hid (own_below HKr.out hbC rfl); have RL := Lib.hid (Bw.new xA [.int .i64 (k9 : Int), .int .i64 (a9 : Int), .int .i64 (b9 : Int)] 57 hgR); rw [hgR]; generalize xA.alloc (.cells #[.int .i64 (k9 : Int), .int .i64 (a9 : Int), .int .i64 (b9 : Int)] 57) = xD at *; clear hgR hbC) | (obtain ⟨gR, hgR⟩ : ∃ g, w7.heap.size = g := ⟨_, rfl⟩; replace XB := Lib.hid (show Below w7.heap.size w7 ((w7.alloc (.cells #[.int .i64 (k9 : Int), .int .i64 (a9 : Int), .int .i64 (b9 : Int)] 57)).drew) from (by repeat (first | exact Below.refl _ _ | assumption | refine Below.drew ?_ | refine below_drewN ?_ _ | refine Below.alloc ?_ (by first | omega | (simp <;> omega)) _ | refine Below.setCell ?_ (by first | omega | (simp <;> omega)) _ | refine Below.trans ?_ (Below.mono (by assumption) (by first | omega | (simp <;> omega)))))); have RL := Lib.hid ((Bw.new w7 [.int .i64 (k9 : Int), .int .i64 (a9 : Int), .int .i64 (b9 : Int)] 57 hgR).drew); rw [hgR]; generalize (w7.alloc (.cells #[.int .i64 (k9 : Int), .int .i64 (a9 : Int), .int .i64 (b9 : Int)] 57)).drew = xD at *; clear hgR)); clear a0 a1 a2 a3 b0 b1 b2 d0 d1 d2; obtain ⟨⟨a0, a1, a2, a3⟩, -⟩ := (Z11.out.callB XB.out Z11.out.lt).c4; obtain ⟨⟨b0, b1, b2⟩, -⟩ := (BT.out.bw.callB XB.out BT.out.bw.lt).c3; obtain ⟨⟨d0, d1, d2⟩, -⟩ := (Z13.out.callB XB.out Z13.out.lt).c3)
                                refine hK.out _ _ ?_ (fun hHeld2 => ?_)
                                · ((try dsimp only); (exact ⟨a3, b0, b1, b2, d0, d1, d2⟩))
                                clear hB hK K hHeld1
                                refine AnyB.each (rs := [7]) (by kernel_rfl) (by simp) ?_
                                refine EachB.cons rfl (fun K hK hB => ?_) ?_
                                · skip
                                  (refine step_append_any _ (by rfl) (.tmp 91) (.tmp 93) 34 (by rfl) w7.heap.size 57 i0 (.agg #[.int .i64 0, .int .i64 0, .int .i64 0]) 3 24 Try.underlying34 hi hz0 hz1 hz2 rfl (by omega) _ wd.length _ (by rfl) HKr.out _ _ 1 1 [.int .i64 (k9 : Int), .int .i64 (a9 : Int), .int .i64 (b9 : Int)] (by rfl) (reads_bw RL.out rfl) h1R (by unfold maxLen; omega) (by omega) XB.out.size ?_; intro v8 w8 hown8 hg8 hat8; obtain ⟨a8, c8, rfl⟩ := own_form hown8; replace XB := Lib.hid (XB.out.grown hg8 XB.out.size (fun b hb => (HKr.out.lt b hb).1)); have W8 := Lib.hid (word_add HL9.out hown8); clear hown8 hg8 hat8 HKr RL; clear a0 a1 a2 a3 b0 b1 b2 d0 d1 d2; obtain ⟨⟨a0, a1, a2, a3⟩, -⟩ := (Z11.out.callB XB.out Z11.out.lt).c4; obtain ⟨⟨b0, b1, b2⟩, -⟩ := (BT.out.bw.callB XB.out BT.out.bw.lt).c3; obtain ⟨⟨d0, d1, d2⟩, -⟩ := (Z13.out.callB XB.out Z13.out.lt).c3)
                                  refine hK.out _ _ ?_ (fun hHeld3 => ?_)
                                  · ((try dsimp only); (exact ⟨a3, b0, b1, b2, d0, d1, d2⟩))
                                  clear hB hK K hHeld2
                                  refine AnyB.takeQ (i := 8) (oi := _) (v := ?_) (by simp only [List.getElem?_toArray, List.getElem?_cons_zero, List.getElem?_cons_succ]; rfl) (by kernel_rfl) (by kernel_rfl) (by kernel_rfl) (by intro _ _ _ h; exact h) (Or.inl ⟨by rfl, ?_⟩) ?_
                                  rotate_left
                                  · (intro w hSw; (try dsimp only at hSw); go_simp; (try (with_reducible rfl)))
                                  try simp only [Act.put, List.setIfInBounds_toArray, List.set_cons_zero, List.set_cons_succ]
                                  refine AnyB.each (rs := [9]) (by kernel_rfl) (by simp) ?_
                                  refine EachB.cons rfl (fun K hK hB => ?_) ?_
                                  · skip
                                    (go_simp; obtain ⟨gN, hgN⟩ : ∃ g, w8.heap.size = g := ⟨_, rfl⟩; have hbC := (show Below w8.heap.size w8 (w8.alloc (.cells #[.int .i64 (n : Int), .slice ap0 n cp0, .slice ap1 n cp1, .slice a8 (wd.length + 1) c8] 73)) from (by repeat (first | exact Below.refl _ _ | assumption | refine Below.drew ?_ | refine below_drewN ?_ _ | refine Below.alloc ?_ (by first | omega | (simp <;> omega)) _ | refine Below.setCell ?_ (by first | omega | (simp <;> omega)) _ | refine Below.trans ?_ (Below.mono (by assumption) (by first | omega | (simp <;> omega)))))); replace XB := Lib.hid (Below.trans XB.out (hbC.mono XB.out.size)); replace W8 := Lib.hid (own_below W8.out hbC rfl); have RN := Lib.hid (Bw.new w8 [.int .i64 (n : Int), .slice ap0 n cp0, .slice ap1 n cp1, .slice a8 (wd.length + 1) c8] 73 hgN); rw [hgN]; generalize w8.alloc (.cells #[.int .i64 (n : Int), .slice ap0 n cp0, .slice ap1 n cp1, .slice a8 (wd.length + 1) c8] 73) = xE at *; clear hgN hbC; clear a0 a1 a2 a3 b0 b1 b2 d0 d1 d2; obtain ⟨⟨a0, a1, a2, a3⟩, -⟩ := (Z11.out.callB XB.out Z11.out.lt).c4; obtain ⟨⟨b0, b1, b2⟩, -⟩ := (BT.out.bw.callB XB.out BT.out.bw.lt).c3; obtain ⟨⟨d0, d1, d2⟩, -⟩ := (Z13.out.callB XB.out Z13.out.lt).c3)
                                    refine hK.out _ _ ?_ (fun hHeld4 => ?_)
                                    · ((try dsimp only); (exact ⟨a3, b0, b1, b2, d0, d1, d2⟩))
                                    clear hB hK K hHeld3
                                    refine AnyB.each (rs := [10]) (by kernel_rfl) (by simp) ?_
                                    refine EachB.cons rfl (fun K hK hB => ?_) ?_
                                    · skip
                                      (have K8 := Lib.hid (K7.out.call XB.out); have N8 := Lib.hid (N4.out.call XB.out); have ND9 := Lib.hid (show Nd xE n (stT n x j, wd ++ [j]) ⟨.slice ap0 n cp0, .slice ap1 n cp1, .slice a8 (wd.length + 1) c8⟩ from ⟨(TC.out.call XB.out).rx, (TC.out.call XB.out).rz, own_le W8.out (Nat.zero_le _)⟩); have Y9 := Lib.hid (Z11.out.callB XB.out Z11.out.lt); have hb7 := K8.out.t1.lt; refine step_append_lies _ (by rfl) (.tmp 87) (.tmp 96) 74 (by rfl) (w.heap.size + 1) 73 j0 (.agg #[.int .i64 0, .slice none 0 0, .slice none 0 0, .slice none 0 0]) 4 80 Try.underlying74 hj0 hy0 hy1 hy2 rfl (by omega) u9 P2.length _ (by rfl) K8.out.nxt ⟨gN, 0, none⟩ 1 1 [.int .i64 (n : Int), .slice ap0 n cp0, .slice ap1 n cp1, .slice a8 (wd.length + 1) c8] (by rfl) (by rfl) (bw_cells RN.out) (h1N _ _ _) (by omega) (by unfold maxLen; omega) (by omega) (by omega) _ rfl ?_; intro g9 cp9 w9 hown9 hgr9 hat9 hlt9; have K9 := Lib.hid (K8.out.app (p := (stT n x j, wd ++ [j])) ND9.out hown9 hgr9 hat9); have N9 := Lib.hid (N8.out.kept hgr9 (node_no_cells K8.out.nxt)); have X9 := Lib.hid (Y9.out.kept hgr9 (fun e => G11 e.symm)); have G9 : (Value.slice (some ⟨g9, 0, none⟩) (P2.length + 1) cp9).ownBlock ≠ some g11 := (fun e => (by have e2 : g9 = g11 := (by injection e); subst e2; rcases hat9 with h | h; exact G11 h; exact absurd h (Nat.ne_of_lt Y9.out.lt))); clear hown9 hgr9 hat9 hlt9 K8 N8 ND9 Y9 a0 a1 a2 a3 b0 b1 b2 d0 d1 d2)
                                      refine hB.out _ _ rfl ?_
                                      clear hB hK K
                                      refine AnyB.takeQ (i := 11) (oi := _) (v := ?_) (by simp only [List.getElem?_toArray, List.getElem?_cons_zero, List.getElem?_cons_succ]; rfl) (by kernel_rfl) (by kernel_rfl) (by kernel_rfl) (by intro _ _ _ h; exact h) (Or.inl ⟨by rfl, ?_⟩) ?_
                                      rotate_left
                                      · (intro w hSw; (try dsimp only at hSw); go_simp; (try (with_reducible rfl)))
                                      try simp only [Act.put, List.setIfInBounds_toArray, List.set_cons_zero, List.set_cons_succ]
                                      refine AnyB.none (by kernel_rfl) ?_ _
                                      go_wp2_with fail
                                      go_roundw
                                      case rel => exact ⟨j + 1, P2 ++ [(stT n x j, wd ++ [j])], _, by go_num, by omega, (show PlQ _ _ _ _ _ _ _ _ _ from HQ.out.new PX.out hlt3 hin), (show KS _ _ _ _ _ _ _ _ _ _ _ _ _ _ from by rw [← List.append_assoc]; exact K9.out), N9, X9, G9⟩
                                      case measure => simp [intOf]; omega
                                    exact EachB.nil
                                  exact EachB.nil
                                exact EachB.nil
                              exact EachB.nil
                            refine EachB.cons rfl (fun K hK hB => ?_) ?_
                            · skip
                              (go_simp; (first | (obtain ⟨gR, hgR⟩ : ∃ g, xA.heap.size = g := ⟨_, rfl⟩; have hbC := (show Below xA.heap.size xA (xA.alloc (.cells #[.int .i64 (k9 : Int), .int .i64 (a9 : Int), .int .i64 (b9 : Int)] 57)) from (by repeat (first | exact Below.refl _ _ | assumption | refine Below.drew ?_ | refine below_drewN ?_ _ | refine Below.alloc ?_ (by first | omega | (simp <;> omega)) _ | refine Below.setCell ?_ (by first | omega | (simp <;> omega)) _ | refine Below.trans ?_ (Below.mono (by assumption) (by first | omega | (simp <;> omega)))))); replace XB := Lib.hid (Below.trans XB.out (hbC.mono XB.out.size)); replace HKr := Lib.hid (own_below HKr.out hbC rfl); have RL := Lib.hid (Bw.new xA [.int .i64 (k9 : Int), .int .i64 (a9 : Int), .int .i64 (b9 : Int)] 57 hgR); rw [hgR]; generalize xA.alloc (.cells #[.int .i64 (k9 : Int), .int .i64 (a9 : Int), .int .i64 (b9 : Int)] 57) = xD at *; clear hgR hbC) | (obtain ⟨gR, hgR⟩ : ∃ g, w7.heap.size = g := ⟨_, rfl⟩; replace XB := Lib.hid (show Below w7.heap.size w7 ((w7.alloc (.cells #[.int .i64 (k9 : Int), .int .i64 (a9 : Int), .int .i64 (b9 : Int)] 57)).drew) from (by repeat (first | exact Below.refl _ _ | assumption | refine Below.drew ?_ | refine below_drewN ?_ _ | refine Below.alloc ?_ (by first | omega | (simp <;> omega)) _ | refine Below.setCell ?_ (by first | omega | (simp <;> omega)) _ | refine Below.trans ?_ (Below.mono (by assumption) (by first | omega | (simp <;> omega)))))); have RL := Lib.hid ((Bw.new w7 [.int .i64 (k9 : Int), .int .i64 (a9 : Int), .int .i64 (b9 : Int)] 57 hgR).drew); rw [hgR]; generalize (w7.alloc (.cells #[.int .i64 (k9 : Int), .int .i64 (a9 : Int), .int .i64 (b9 : Int)] 57)).drew = xD at *; clear hgR)); clear a0 a1 a2 a3 b0 b1 b2 d0 d1 d2; obtain ⟨⟨a0, a1, a2, a3⟩, -⟩ := (Z11.out.callB XB.out Z11.out.lt).c4; obtain ⟨⟨b0, b1, b2⟩, -⟩ := (BT.out.bw.callB XB.out BT.out.bw.lt).c3; obtain ⟨⟨d0, d1, d2⟩, -⟩ := (Z13.out.callB XB.out Z13.out.lt).c3)
                              refine hK.out _ _ ?_ (fun hHeld5 => ?_)
                              · ((try dsimp only); (exact ⟨a3, b0, b1, b2, d0, d1, d2⟩))
                              clear hB hK K hHeld0
                              refine AnyB.each (rs := [4]) (by kernel_rfl) (by simp) ?_
                              refine EachB.cons rfl (fun K hK hB => ?_) ?_
                              · skip
                                (go_simp; go_at_call 47; refine (clone_g (n := n) (L := wd) ((N4.out.call XB.out).g) hwl).mono ?_; rintro e xA ⟨vK, rfl, hK, hxA⟩; obtain ⟨aK, cK, rfl⟩ := own_form hK; have HKr := Lib.hid (own_le hK XB.out.size); replace XB := Lib.hid (Below.trans XB.out (hxA.mono XB.out.size)); (try (replace RL := Lib.hid (RL.out.call hxA))); clear hK hxA; clear a0 a1 a2 a3 b0 b1 b2 d0 d1 d2; obtain ⟨⟨a0, a1, a2, a3⟩, -⟩ := (Z11.out.callB XB.out Z11.out.lt).c4; obtain ⟨⟨b0, b1, b2⟩, -⟩ := (BT.out.bw.callB XB.out BT.out.bw.lt).c3; obtain ⟨⟨d0, d1, d2⟩, -⟩ := (Z13.out.callB XB.out Z13.out.lt).c3; dsimp only)
                                refine hK.out _ _ ?_ (fun hHeld6 => ?_)
                                · ((try dsimp only); (exact ⟨a3, b0, b1, b2, d0, d1, d2⟩))
                                clear hB hK K hHeld5
                                refine AnyB.each (rs := [7]) (by kernel_rfl) (by simp) ?_
                                refine EachB.cons rfl (fun K hK hB => ?_) ?_
                                · skip
                                  (refine step_append_any _ (by rfl) (.tmp 91) (.tmp 93) 34 (by rfl) w7.heap.size 57 i0 (.agg #[.int .i64 0, .int .i64 0, .int .i64 0]) 3 24 Try.underlying34 hi hz0 hz1 hz2 rfl (by omega) _ wd.length _ (by rfl) HKr.out _ _ 1 1 [.int .i64 (k9 : Int), .int .i64 (a9 : Int), .int .i64 (b9 : Int)] (by rfl) (reads_bw RL.out rfl) h1R (by unfold maxLen; omega) (by omega) XB.out.size ?_; intro v8 w8 hown8 hg8 hat8; obtain ⟨a8, c8, rfl⟩ := own_form hown8; replace XB := Lib.hid (XB.out.grown hg8 XB.out.size (fun b hb => (HKr.out.lt b hb).1)); have W8 := Lib.hid (word_add HL9.out hown8); clear hown8 hg8 hat8 HKr RL; clear a0 a1 a2 a3 b0 b1 b2 d0 d1 d2; obtain ⟨⟨a0, a1, a2, a3⟩, -⟩ := (Z11.out.callB XB.out Z11.out.lt).c4; obtain ⟨⟨b0, b1, b2⟩, -⟩ := (BT.out.bw.callB XB.out BT.out.bw.lt).c3; obtain ⟨⟨d0, d1, d2⟩, -⟩ := (Z13.out.callB XB.out Z13.out.lt).c3)
                                  refine hK.out _ _ ?_ (fun hHeld7 => ?_)
                                  · ((try dsimp only); (exact ⟨a3, b0, b1, b2, d0, d1, d2⟩))
                                  clear hB hK K hHeld6
                                  refine AnyB.takeQ (i := 8) (oi := _) (v := ?_) (by simp only [List.getElem?_toArray, List.getElem?_cons_zero, List.getElem?_cons_succ]; rfl) (by kernel_rfl) (by kernel_rfl) (by kernel_rfl) (by intro _ _ _ h; exact h) (Or.inl ⟨by rfl, ?_⟩) ?_
                                  rotate_left
                                  · (intro w hSw; (try dsimp only at hSw); go_simp; (try (with_reducible rfl)))
                                  try simp only [Act.put, List.setIfInBounds_toArray, List.set_cons_zero, List.set_cons_succ]
                                  refine AnyB.each (rs := [9]) (by kernel_rfl) (by simp) ?_
                                  refine EachB.cons rfl (fun K hK hB => ?_) ?_
                                  · skip
                                    (go_simp; obtain ⟨gN, hgN⟩ : ∃ g, w8.heap.size = g := ⟨_, rfl⟩; have hbC := (show Below w8.heap.size w8 (w8.alloc (.cells #[.int .i64 (n : Int), .slice ap0 n cp0, .slice ap1 n cp1, .slice a8 (wd.length + 1) c8] 73)) from (by repeat (first | exact Below.refl _ _ | assumption | refine Below.drew ?_ | refine below_drewN ?_ _ | refine Below.alloc ?_ (by first | omega | (simp <;> omega)) _ | refine Below.setCell ?_ (by first | omega | (simp <;> omega)) _ | refine Below.trans ?_ (Below.mono (by assumption) (by first | omega | (simp <;> omega)))))); replace XB := Lib.hid (Below.trans XB.out (hbC.mono XB.out.size)); replace W8 := Lib.hid (own_below W8.out hbC rfl); have RN := Lib.hid (Bw.new w8 [.int .i64 (n : Int), .slice ap0 n cp0, .slice ap1 n cp1, .slice a8 (wd.length + 1) c8] 73 hgN); rw [hgN]; generalize w8.alloc (.cells #[.int .i64 (n : Int), .slice ap0 n cp0, .slice ap1 n cp1, .slice a8 (wd.length + 1) c8] 73) = xE at *; clear hgN hbC; clear a0 a1 a2 a3 b0 b1 b2 d0 d1 d2; obtain ⟨⟨a0, a1, a2, a3⟩, -⟩ := (Z11.out.callB XB.out Z11.out.lt).c4; obtain ⟨⟨b0, b1, b2⟩, -⟩ := (BT.out.bw.callB XB.out BT.out.bw.lt).c3; obtain ⟨⟨d0, d1, d2⟩, -⟩ := (Z13.out.callB XB.out Z13.out.lt).c3)
                                    refine hK.out _ _ ?_ (fun hHeld8 => ?_)
                                    · ((try dsimp only); (exact ⟨a3, b0, b1, b2, d0, d1, d2⟩))
                                    clear hB hK K hHeld7
                                    refine AnyB.each (rs := [10]) (by kernel_rfl) (by simp) ?_
                                    refine EachB.cons rfl (fun K hK hB => ?_) ?_
                                    · skip
                                      (have K8 := Lib.hid (K7.out.call XB.out); have N8 := Lib.hid (N4.out.call XB.out); have ND9 := Lib.hid (show Nd xE n (stT n x j, wd ++ [j]) ⟨.slice ap0 n cp0, .slice ap1 n cp1, .slice a8 (wd.length + 1) c8⟩ from ⟨(TC.out.call XB.out).rx, (TC.out.call XB.out).rz, own_le W8.out (Nat.zero_le _)⟩); have Y9 := Lib.hid (Z11.out.callB XB.out Z11.out.lt); have hb7 := K8.out.t1.lt; refine step_append_lies _ (by rfl) (.tmp 87) (.tmp 96) 74 (by rfl) (w.heap.size + 1) 73 j0 (.agg #[.int .i64 0, .slice none 0 0, .slice none 0 0, .slice none 0 0]) 4 80 Try.underlying74 hj0 hy0 hy1 hy2 rfl (by omega) u9 P2.length _ (by rfl) K8.out.nxt ⟨gN, 0, none⟩ 1 1 [.int .i64 (n : Int), .slice ap0 n cp0, .slice ap1 n cp1, .slice a8 (wd.length + 1) c8] (by rfl) (by rfl) (bw_cells RN.out) (h1N _ _ _) (by omega) (by unfold maxLen; omega) (by omega) (by omega) _ rfl ?_; intro g9 cp9 w9 hown9 hgr9 hat9 hlt9; have K9 := Lib.hid (K8.out.app (p := (stT n x j, wd ++ [j])) ND9.out hown9 hgr9 hat9); have N9 := Lib.hid (N8.out.kept hgr9 (node_no_cells K8.out.nxt)); have X9 := Lib.hid (Y9.out.kept hgr9 (fun e => G11 e.symm)); have G9 : (Value.slice (some ⟨g9, 0, none⟩) (P2.length + 1) cp9).ownBlock ≠ some g11 := (fun e => (by have e2 : g9 = g11 := (by injection e); subst e2; rcases hat9 with h | h; exact G11 h; exact absurd h (Nat.ne_of_lt Y9.out.lt))); clear hown9 hgr9 hat9 hlt9 K8 N8 ND9 Y9 a0 a1 a2 a3 b0 b1 b2 d0 d1 d2)
                                      refine hB.out _ _ rfl ?_
                                      clear hB hK K
                                      refine AnyB.takeQ (i := 11) (oi := _) (v := ?_) (by simp only [List.getElem?_toArray, List.getElem?_cons_zero, List.getElem?_cons_succ]; rfl) (by kernel_rfl) (by kernel_rfl) (by kernel_rfl) (by intro _ _ _ h; exact h) (Or.inl ⟨by rfl, ?_⟩) ?_
                                      rotate_left
                                      · (intro w hSw; (try dsimp only at hSw); go_simp; (try (with_reducible rfl)))
                                      try simp only [Act.put, List.setIfInBounds_toArray, List.set_cons_zero, List.set_cons_succ]
                                      refine AnyB.none (by kernel_rfl) ?_ _
                                      go_wp2_with fail
                                      go_roundw
                                      case rel => exact ⟨j + 1, P2 ++ [(stT n x j, wd ++ [j])], _, by go_num, by omega, (show PlQ _ _ _ _ _ _ _ _ _ from HQ.out.new PX.out hlt3 hin), (show KS _ _ _ _ _ _ _ _ _ _ _ _ _ _ from by rw [← List.append_assoc]; exact K9.out), N9, X9, G9⟩
                                      case measure => simp [intOf]; omega
                                    exact EachB.nil
                                  exact EachB.nil
                                exact EachB.nil
                              exact EachB.nil
                            exact EachB.nil
                      · have i3 : ¬ (j : Int) < (KK n : Int) := by omega
                        obtain rfl : j = KK n := by omega
                        go_wp2_with fail
                        go_roundw
                        case rel => exact ⟨i + 1, P2, M2, by go_num, by omega, (show PlQ _ _ _ _ _ _ _ _ _ from HQ.out.step PX.out hxt), HK⟩
                        case measure => simp [intOf]; omega
                · have i2 : ¬ (i : Int) < (P.length : Int) := by omega
                  obtain rfl : i = P.length := by omega
                  go_wp2_with fail
                  go_roundw
                  case rel => exact ⟨d + 1, N + P.length, pre ++ P, P2, M2, by go_num, by omega, (show PlQ _ _ _ _ _ _ _ _ _ from HQ.out.turn), (show KS _ _ _ _ _ _ _ _ _ _ _ _ _ _ from by rw [List.append_nil]; exact HK.out.turn)⟩
                  case measure => simp [intOf]; omega
            · have i1 : ¬ (d : Int) ≤ 12 := by omega
              obtain rfl : d = 13 := by omega
              go_wp2_with fail
              exact bodyPost_ret (v := .tuple #[.slice none 0 0, .bool false]) (by simp [results, Try.results21, go_sem]) rfl ⟨⟨_, _, none, rfl, HQ.out.none_, .inl ⟨rfl, rfl⟩⟩, HK.out.bel⟩
end Go.Proofs.Ytjdffjnennodaaa
