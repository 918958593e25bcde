/- The reference's rounds: l14Gray. -/
import Derived.Test.YtbcjligkjoimmaaZ40M
import Derived.Test.YtbcjligkjoimmaaZ10Sl
import Derived.Test.YtbcjligkjoimmaaZ29Brk
import Derived.BigRegion
import Derived.BigQuiet
import Derived.Deep.LoopGhost
import Derived.Deep.DeepCutAuto
import Derived.Deep.AppendLies
namespace Go.Proofs.Ytbcjligkjoimmaa
set_option linter.unusedSimpArgs false
set_option linter.unusedVariables false
set_option linter.unnecessarySimpa false
set_option maxRecDepth 200000
open Go.ChangeShapes Go.WideShapes Go.ChangeAt Go.RowKit

theorem task_two {a1 a2 d1 d2 : Option Addr} {n1 n2 m1 m2 c1 c2 e1 e2 : Nat} {x y : Int} : ∀ u ∈ [Value.slice a1 n1 c1, .slice d1 m1 e1, .int .i64 x, .slice a2 n2 c2, .slice d2 m2 e2, .int .i64 y], u.oneCell' = true := by
  intro u hu
  simp at hu
  rcases hu with rfl | rfl | rfl | rfl | rfl | rfl <;> rfl
set_option maxHeartbeats 32000000 in
theorem spec_l14Gray_any (n : Nat) (v : Value) (masks : List Nat) (w : World) (h : RdI w v (ints masks)) (hs : Sm masks) (n1 : 1 ≤ n) (n5 : n ≤ 5) :
    Calls Try.prog 16 #[.int .i64 (n : Int), v] w fun e w' => ∃ u, e = .returned (.agg #[.int .i64 (n : Int), u]) ∧ OwnE w' w.heap.size 58 u E3.cs 3 (gAll n masks) ∧ Below w.heap.size w w' := by
  obtain ⟨i0, hi, hz0, hz1, hz2⟩ := info_parts info_Gate
  obtain ⟨k0, hkk, hx0, hx1, hx2⟩ := info_parts info_l14Task
  obtain ⟨j0, hjj, hy0, hy1, hy2⟩ := info_parts info_int
  have H := Lib.hid h
  have HS := Lib.hid hs
  have hml := hs.1
  obtain ⟨A, c, rfl, _⟩ := h.form
  rw [ints_len] at *
  clear h hs
  have BR0 := Lib.hid ((Bx.make (w := w) (B := w.heap.size) (R := []) [.int .i64 0, .slice none 0 0] 31 (fun r hr => by cases hr) (Nat.le_refl _)).call (show Below (w.alloc (.cells #[.int .i64 0, .slice none 0 0] 31)).heap.size (w.alloc (.cells #[.int .i64 0, .slice none 0 0] 31)) ((w.alloc (.cells #[.int .i64 0, .slice none 0 0] 31)).alloc (.cells #[.int .i64 (n : Int), .slice none 0 0] 31)) from (by repeat (first | exact Below.refl _ _ | assumption | refine Below.drew ?_ | refine below_drewN ?_ _ | refine Below.alloc ?_ (by first | omega | (simp <;> omega)) _ | refine Below.setCell ?_ (by first | omega | (simp <;> omega)) _ | refine Below.trans ?_ (Below.mono (by assumption) (by first | omega | (simp <;> omega)))))))
  have BC0 := Lib.hid (show Bx ((w.alloc (.cells #[.int .i64 0, .slice none 0 0] 31)).alloc (.cells #[.int .i64 (n : Int), .slice none 0 0] 31)) w.heap.size [] (w.heap.size + 1) [.int .i64 (n : Int), .slice none 0 0] from by
    have h9 := Bx.make (w := w.alloc (.cells #[.int .i64 0, .slice none 0 0] 31)) (B := w.heap.size) (R := []) [.int .i64 (n : Int), .slice none 0 0] 31 (fun r hr => by cases hr) (by simp)
    rwa [show (w.alloc (.cells #[.int .i64 0, .slice none 0 0] 31)).heap.size = w.heap.size + 1 from by simp] at h9)
  have HW := Lib.hid (show Below w.heap.size w ((w.alloc (.cells #[.int .i64 0, .slice none 0 0] 31)).alloc (.cells #[.int .i64 (n : Int), .slice none 0 0] 31)) from (by repeat (first | exact Below.refl _ _ | assumption | refine Below.drew ?_ | refine below_drewN ?_ _ | refine Below.alloc ?_ (by first | omega | (simp <;> omega)) _ | refine Below.setCell ?_ (by first | omega | (simp <;> omega)) _ | refine Below.trans ?_ (Below.mono (by assumption) (by first | omega | (simp <;> omega))))))
  have hsz : w.heap.size + 2 ≤ ((w.alloc (.cells #[.int .i64 0, .slice none 0 0] 31)).alloc (.cells #[.int .i64 (n : Int), .slice none 0 0] 31)).heap.size := by simp
  obtain ⟨B, hB⟩ : ∃ B, B = w.heap.size := ⟨_, rfl⟩
  go_enter Try.func16, Try.ntmps16
  go_wp2_with fail
  generalize ((w.alloc (.cells #[.int .i64 0, .slice none 0 0] 31)).alloc (.cells #[.int .i64 (n : Int), .slice none 0 0] 31)) = W at *
  go_loopw [6, 7] (fun so i wr => ∃ (k : Nat) (u : Value), u = so ∧ k ≤ n ∧ i = .int .i64 k ∧ Hid (Row.own wr W.heap.size (nrow u (List.range k))) ∧ Hid (Below W.heap.size W wr) ∧ W.heap.size ≤ wr.heap.size) (fun _ i _ => n - (intOf i).toNat)
  case atStart => exact ⟨0, _, rfl, Nat.zero_le _, rfl, (show World.ownsRow _ _ _ _ _ _ _ from World.ownsRow_nil _ _ _ _), (show Below _ _ _ from Below.refl _ _), Nat.le_refl _⟩
  case round =>
    obtain ⟨k, u, rfl, hk, rfl, hO, hBw, hsw⟩ := hrel
    by_cases hlt : k < n
    · have i1 : (k : Int) < (n : Int) := by omega
      have HN := Lib.hid (List.range_succ (n := k))
      have hLl : (List.range k).length = k := List.length_range
      obtain ⟨L, hL⟩ : ∃ L, L = List.range k := ⟨_, rfl⟩
      rw [← hL] at hO HN hLl
      clear hL
      have OX := Lib.hid (show (wr.alloc (.cells #[.int .i64 (k : Int)] 3)).ownsRow W.heap.size 3 1 u L.length ((ints L).map (Value.int .i64)) from World.ownsRow.alloc (show wr.ownsRow W.heap.size 3 1 u L.length ((ints L).map (Value.int .i64)) from hO.out) _)
      have hbX := Lib.hid (Below.alloc hBw.out hsw (.cells #[.int .i64 (k : Int)] 3))
      go_wp2_with (at_builtin; go_must (refine wpList_append_any _ rfl _ _ 23 rfl W.heap.size 3 j0 (.int .i64 0) 1 8 Try.underlying23 hjj hy0 hy1 hy2 rfl (by decide) _ L.length _ rfl OX.out (wr.heap.size + 1) _ 1 1 [.int .i64 (k : Int)] rfl (one_reads wr k) (one_one _) (by unfold maxLen; omega) (by omega) (by simp; omega) ?_; intro v3 w4 hown3 hg3 hat3; have S4 := Lib.hid (show Row.own w4 W.heap.size (nrow v3 (List.range (k + 1))) from (by rw [HN.out]; exact nrow_app hown3)); have B4 := Lib.hid (grown_below hbX.out OX.out hg3 (Nat.le_refl _) (by simp; omega)); have z4 := hg3.size; (simp at z4); clear hown3 hg3 hat3))
      go_roundw
      case rel => exact ⟨k + 1, _, rfl, by omega, by go_num, S4, B4, by omega⟩
      case measure => simp [intOf]; omega
    · have ek : k = n := by omega
      subst ek
      have i1 : ¬ (k : Int) < (k : Int) := by omega
      have BR1 := Lib.hid (BR0.out.call hBw.out)
      have BC1 := Lib.hid (BC0.out.call hBw.out)
      have HW1 := Lib.hid (Below.trans HW.out (hBw.out.mono (by omega)))
      obtain ⟨a6, c6, rfl⟩ : ∃ a c, u = .slice a k c := by have h9 := own_form hO.out; unfold nrow at h9; dsimp only at h9; rwa [List.length_range] at h9
      go_wp2_with fail
      refine (spec_l1Own_any _ (ints masks) _ (Rd.below H.out HW1.out rfl) (by rw [ints_len]; omega)).mono ?_; rintro e w2 ⟨v2, rfl, ho2, hb2⟩
      obtain ⟨a2, c2, rfl⟩ : ∃ a c, v2 = .slice a masks.length c := by have h9 := ho2.forms; rw [ints_len] at h9; exact h9
      have SM0 := Lib.hid (SMem.start (w0 := w) n5 HS.out (show w.heap.size ≤ wr.heap.size by omega) (own_le (show wr.ownsRow W.heap.size 3 1 _ (List.range k).length _ from hO.out) (by omega)) BR1.out BC1.out (show w2.ownsRow wr.heap.size 3 1 (.slice a2 masks.length c2) masks.length _ from by have h9 := ho2; unfold OwnI at h9; rw [ints_len] at h9; exact h9) hb2 HW1.out (fun e => by have := (World.ownsRow.lt (show wr.ownsRow W.heap.size 3 1 _ (List.range k).length _ from hO.out) _ e).1; omega))
      clear BR0 BC0 HW BR1 BC1 HW1 hO hBw ho2 hb2
      go_wp2_with fail
      generalize (w2.alloc (.cells #[.slice a2 masks.length c2, .slice a6 k c6, .int .i64 (-1)] 83)) = W2 at *
      clear hsz hsw
      have SMX := Lib.hid (show SMem k masks w.heap.size 63 w.heap.size (w.heap.size + 1) w W2 (.slice none 0 0) (.slice (some ⟨w2.heap.size, 0, none⟩) 1 1) [⟨⟨masks, 2 ^ k - 1, -1⟩, .slice a2 masks.length c2, .slice a6 k c6⟩] [] from SM0.out)
      clear SM0
      obtain ⟨bg, hbg⟩ : ∃ b, b = w2.heap.size := ⟨_, rfl⟩
      rw [← hbg] at SMX ⊢
      clear hbg
      go_loopg [8] 63 (fun f ss wr => ∃ (vO vS : Value) (T : List TM) (O : List E3), vS = ss ∧ Hid (SMem k masks w.heap.size f w.heap.size (w.heap.size + 1) w wr vO vS T O))
      case atStart => exact ⟨_, _, _, _, rfl, SMX⟩
      case round =>
        clear SMX
        obtain ⟨vO, vS, T, O, rfl, hM⟩ := hrel
        rcases List.eq_nil_or_concat T with rfl | ⟨T', y, rfl⟩
        · have HR := Lib.hid (show O = gAll k masks from (gLoop_nil k gk O).symm.trans hM.out.run)
          obtain ⟨aS, cS, rfl⟩ : ∃ a c, vS = .slice a 0 c := own_form (show Row.own wr w.heap.size (trow 83 vS []) from hM.out.fam.fam.own _ (by simp [srows]))
          have OV := Lib.hid (show Row.own wr w.heap.size (orow vO O) from hM.out.fam.fam.own (orow vO O) (by simp [srows]))
          obtain ⟨aO, cO, rfl⟩ : ∃ a c, vO = .slice a O.length c := own_form OV.out
          have q0 := hM.out.bxC.cs 0 _ rfl; have q1 := hM.out.bxC.cs 1 _ rfl
          have r0 := hM.out.bxR.cs 0 _ rfl; have r1 := hM.out.bxR.cs 1 _ rfl
          have f0 := hM.out.bxR.fz 0 (by simp); have f1 := hM.out.bxR.fz 1 (by simp)
          have HBL := Lib.hid hM.out.bel
          have HOR := Lib.hid (hM.out.bxR.off (orow (.slice aO O.length cO) O) (by simp [srows]))
          clear hM
          have hZ := box_set2 (nb := w.heap.size) (.int .i64 (k : Int)) (.slice aO O.length cO) r0 r1
          have bq := HBL.out
          go_wp2_with fail
          exact bodyPost_ret (v := .agg #[.int .i64 (k : Int), .slice aO O.length cO]) (by simp [results, Try.results16, go_sem, hZ]) rfl ⟨_, rfl, (by rw [← HR.out]; exact row_box (r := orow (.slice aO O.length cO) O) (row_box (r := orow (.slice aO O.length cO) O) OV.out HOR.out) HOR.out), (by repeat (first | exact Below.refl _ _ | assumption | refine Below.drew ?_ | refine below_drewN ?_ _ | refine Below.alloc ?_ (by first | omega | (simp <;> omega)) _ | refine Below.setCell ?_ (by first | omega | (simp <;> omega)) _ | refine Below.trans ?_ (Below.mono (by assumption) (by first | omega | (simp <;> omega)))))⟩
        · rw [List.concat_eq_append] at hM
          have INV0 := hM.out.inv
          rw [stack_rev] at INV0
          obtain ⟨f, rfl⟩ : ∃ f, gk = f + 1 := by
            have h1 := INV0.fuel; rw [wts_cons] at h1; have := wt_pos y.x.fm; exact ⟨gk - 1, by omega⟩
          have RUN0 := hM.out.run
          rw [stack_rev] at RUN0
          have RUN := Lib.hid RUN0; have INV := Lib.hid INV0
          have hTl : T'.length ≤ 63 := by have h1 := INV0.len; have h2 := wts_len (y.x :: (T'.map TM.x).reverse); rw [List.length_cons, List.length_reverse, List.length_map] at h2; omega
          have hOl : O.length ≤ 315 := by have h1 := INV0.len; omega
          have TOK := Lib.hid (INV0.ok y.x (by simp))
          clear RUN0 INV0
          have hST : Row.own wr w.heap.size (trow 83 vS (T' ++ [y])) := hM.out.fam.fam.own _ (by simp [srows])
          obtain ⟨aS, cS, rfl⟩ : ∃ a c, vS = .slice a (T'.length + 1) c := by
            have h9 := own_form hST
            unfold trow at h9
            dsimp only at h9
            rwa [show (T' ++ [y]).length = T'.length + 1 from by simp] at h9
          have hTT : T'.length < (T' ++ [y]).length := by simp
          obtain ⟨gS, rfl, hgS, q0, q1, q2⟩ := trow_cells hST hTT
          have hyT : (T' ++ [y])[T'.length] = y := by simp
          rw [hyT] at q0 q1 q2
          have hcaps : T'.length + 1 ≤ cS ∧ cS ≤ 9223372036854775807 := by
            have h9 := hST
            unfold Row.own trow at h9
            dsimp only at h9
            rw [show (T' ++ [y]).length = T'.length + 1 from by simp] at h9
            exact own_caps h9
          obtain ⟨hcap1, hcap2⟩ := hcaps
          have hcap3 : T'.length ≤ cS := by omega
          have S0 := Lib.hid (SIw.start (by omega) hM.out)
          have hneF := hM.out.offF
          obtain ⟨⟨vs, fm, tg⟩, vv, md⟩ := y
          dsimp only at q0 q1 q2
          obtain ⟨aV, cV, rfl⟩ : ∃ a c, vv = .slice a vs.length c := own_form (show Row.own _ w.heap.size (nrow vv vs) from S0.out.fam.fam.head)
          obtain ⟨aF, cF, rfl⟩ : ∃ a c, md = .slice a (setB fm 5).length c := own_form (show Row.own _ w.heap.size (nrow md (setB fm 5)) from S0.out.fam.own (frow ⟨⟨vs, fm, tg⟩, .slice aV vs.length cV, md⟩) (by simp))
          have hvl : vs.length ≤ 31 := TOK.out.sm.1
          have hfl := setB_len fm 5
          have fm2 := TOK.out.fm
          have tg1 := TOK.out.tg
          dsimp only at fm2 tg1
          have hbw := hM.out.BW
          clear hyT hTT hST hneF hM
          have P0 := Lib.hid (GIp.start (y := ⟨⟨vs, fm, tg⟩, .slice aV vs.length cV, .slice aF (setB fm 5).length cF⟩) rfl INV.out)
          obtain ⟨nF, hnF⟩ : ∃ m, m = (setB fm 5).length := ⟨_, rfl⟩
          rw [← hnF] at S0 P0 hfl q1
          have HNF := Lib.hid hnF
          clear hnF
          by_cases hv0 : vs = []
          · subst hv0
            go_wp2_with fail
            go_roundg f
            case measure => omega
            case rel => exact ⟨_, _, T', O, rfl, (show SMem _ _ _ _ _ _ _ _ _ _ _ _ from S0.out.mem (gInv_empty INV.out) ((gLoop_empty (n := k) (f := f) (x := ⟨[], fm, tg⟩) (r := (T'.map TM.x).reverse) (out := O) rfl).symm.trans RUN.out))⟩
          · have hvp : vs.length ≠ 0 := fun e => hv0 (List.eq_nil_of_length_eq_zero e)
            have HV0 := Lib.hid hv0
            obtain ⟨bx, hbx⟩ : ∃ b, b = wr.heap.size := ⟨_, rfl⟩
            rw [← hbx] at S0
            clear hv0
            go_wp2_with fail
            rw [← hbx]
            generalize (wr.alloc (.cells #[.slice aV vs.length cV, .slice aF nF cF, .int .i64 tg] 83)) = W at *
            clear q0 q1 q2 hgS
            clear hbx
            have hrl : T'.length = (T'.map TM.x).reverse.length := by simp
            obtain ⟨r, hr⟩ : ∃ r, r = (T'.map TM.x).reverse := ⟨_, rfl⟩
            rw [← hr] at P0 RUN INV hrl
            have HRL := Lib.hid hrl
            clear hr hrl
            have P0' : Hid (tg < 0 → (0 : Nat) = 0) := (show tg < 0 → (0 : Nat) = 0 from fun _ => rfl)
            have P0m : Hid ((.slice aF nF cF : Value) = .slice aF nF cF) := (show (.slice aF nF cF : Value) = .slice aF nF cF from rfl)
            go_loopw [10] (fun i wr => ∃ (q : Nat) (vP : Value) (T2 : List TM) (y2 : TM) (O2 : List E3), q ≤ k ∧ i = .int .i64 q ∧ Hid (SIw k w.heap.size w.heap.size (w.heap.size + 1) bx w wr vP (.slice (some ⟨gS, 0, none⟩) T'.length cS) T2 y2 O2) ∧ Hid (GIp k ⟨vs, fm, tg⟩ r O q (.slice aV vs.length cV) T2 y2 O2) ∧ Hid (y2.md = .slice aF nF cF) ∧ Hid (tg < 0 → q = 0)) (fun i _ => k - (intOf i).toNat)
            case atStart => exact ⟨0, _, _, _, _, by omega, rfl, S0, P0, P0m, P0'⟩
            case round =>
              clear S0 P0 P0' P0m
              obtain ⟨q, vP, T2, y2, O2, hq, rfl, hG, hP, hmd, hT0⟩ := hrel
              have HRT := Lib.hid hP.out.Tlen
              have HE1 := Lib.hid hP.out.fm; have HE2 := Lib.hid hP.out.tg; have HE3 := Lib.hid hP.out.vv
              obtain ⟨⟨vs2, fm2', tg2⟩, vv2, md2⟩ := y2
              obtain rfl : fm2' = fm := HE1.out
              obtain rfl : tg2 = tg := HE2.out
              obtain rfl : vv2 = .slice aV vs.length cV := HE3.out
              obtain rfl : md2 = .slice aF nF cF := hmd.out
              clear HE1 HE2 HE3 hmd
              have c0 := hG.out.bxT.cs 0 _ rfl; have c1 := hG.out.bxT.cs 1 _ rfl; have c2 := hG.out.bxT.cs 2 _ rfl
              have d0 := hG.out.bxC.cs 0 _ rfl; have d1 := hG.out.bxC.cs 1 _ rfl
              have e1 := hG.out.bxC.fz 1 (by simp)
              dsimp only at c0 c1 c2
              have HRD := Lib.hid (nrow_rd (show Row.own wr w.heap.size (nrow (.slice aV vs.length cV) vs2) from hG.out.fam.fam.head))
              have HVL2 := Lib.hid (show vs2.length = vs.length from hP.out.ok.ne)
              have HSM2 := Lib.hid hP.out.ok.sm
              have HBW2 := Lib.hid hG.out.BW
              by_cases hin : q < k ∧ 0 ≤ tg2
              · skip
                obtain ⟨hkn, ht0⟩ := hin
                have i1 : (q : Int) < (k : Int) := by omega
                obtain ⟨tn, rfl⟩ : ∃ tn : Nat, tg2 = (tn : Int) := ⟨tg2.toNat, by omega⟩
                have htn : tn < k := by omega
                have HT5 := Lib.hid (show (0 : Int) ≤ (tn : Int) ∧ (tn : Int) < (k : Int) from ⟨by omega, by omega⟩)
                clear tg1
                by_cases hkt : q = tn
                · subst hkt
                  have HN := Lib.hid (hP.out.no n5 HT5.out hkn (show gHit (q : Int) vs2 q = false from by unfold gHit; simp))
                  go_wp2_with fail
                  go_roundw
                  case rel => exact ⟨q + 1, _, _, _, _, by omega, by go_num, hG, HN, (show (Value.slice aF nF cF) = _ from rfl), (show _ → _ from fun h9 => absurd h9 (by omega))⟩
                  case measure => simp [intOf]; omega
                · have hkt2 : ¬ (q : Int) = (tn : Int) := by omega
                  have hkt3 : ((q : Int) != (tn : Int)) = true := by simp; omega
                  have hkt4 : ((q : Int) == (tn : Int)) = false := by simp; omega
                  clear hkt
                  have hP1 := hP.out.ok.len
                  have HPn := Lib.hid (fun h9 => hP.out.no n5 HT5.out hkn h9)
                  have HPy := Lib.hid (fun h9 => hP.out.yes n5 HT5.out hkn h9)
                  dsimp only at hP1
                  have HGH := Lib.hid (show gHit (tn : Int) vs2 q = decide ((gSet vs2 q false).length = 0) from by unfold gHit; rw [decide_eq_false hkt2, ← inAll_set]; rfl)
                  have HVO := Lib.hid (show Row.own wr w.heap.size (orow vP O2) from hG.out.fam.fam.own _ (by simp [srows]))
                  obtain ⟨aP, cP, rfl⟩ : ∃ a c, vP = .slice a O2.length c := own_form HVO.out
                  have hP0 := Lib.hid hP.out
                  clear hP HVO
                  go_wp2_with fail
                  refine (spec_l14Set_0 q _ vs2 _ HRD.out HSM2.out (by omega)).mono ?_; rintro e w2 ⟨u, rfl, hou, hb2⟩
                  obtain ⟨au, cu, rfl⟩ : ∃ a c, u = .slice a (gSet vs2 q false).length c := own_form hou
                  replace hG := Lib.hid (hG.out.call hb2)
                  clear c0 c1 c2 d0 d1 e1 hb2 hou
                  have c0 := hG.out.bxT.cs 0 _ rfl; have c1 := hG.out.bxT.cs 1 _ rfl; have c2 := hG.out.bxT.cs 2 _ rfl
                  have d0 := hG.out.bxC.cs 0 _ rfl; have d1 := hG.out.bxC.cs 1 _ rfl
                  have e1 := hG.out.bxC.fz 1 (by simp)
                  dsimp only at c0 c1 c2
                  have hgl := gSet_len vs2 q false
                  rw [HVL2.out] at hgl
                  obtain ⟨ng, hng⟩ : ∃ m, m = (gSet vs2 q false).length := ⟨_, rfl⟩
                  rw [← hng] at HGH hgl ⊢
                  clear hng
                  by_cases hz : ng = 0
                  · subst hz
                    have HN := Lib.hid (HPy.out (by rw [HGH.out]; rfl))
                    clear HPn HPy
                    have GX := Lib.hid (hG.out.call (show Below w2.heap.size w2 (w2.alloc (.cells #[.int .i64 9, .int .i64 (q : Int), .int .i64 (tn : Int)] 58)) from (by repeat (first | exact Below.refl _ _ | assumption | refine Below.drew ?_ | refine below_drewN ?_ _ | refine Below.alloc ?_ (by first | omega | (simp <;> omega)) _ | refine Below.setCell ?_ (by first | omega | (simp <;> omega)) _ | refine Below.trans ?_ (Below.mono (by assumption) (by first | omega | (simp <;> omega)))))))
                    have OX := Lib.hid (show (w2.alloc (.cells #[.int .i64 9, .int .i64 (q : Int), .int .i64 (tn : Int)] 58)).ownsRow w.heap.size 58 3 (.slice aP O2.length cP) O2.length (O2.flatMap E3.cs) from GX.out.fam.fam.own (orow (.slice aP O2.length cP) O2) (by simp [srows]))
                    have HBX := Lib.hid GX.out.BW
                    go_wp2_with (at_builtin; go_must (refine wpList_append_any _ rfl _ _ 29 rfl w.heap.size 58 i0 (.agg #[.int .i64 0, .int .i64 0, .int .i64 0]) 3 24 Try.underlying29 hi hz0 hz1 hz2 rfl (by decide) _ O2.length _ rfl OX.out (w2.heap.size + 1) _ 1 1 (E3.cs ⟨9, (q : Int), (tn : Int)⟩) rfl (by have := reads_news w2 (E3.cs ⟨9, (q : Int), (tn : Int)⟩) 58 3 1 rfl; simpa [E3.cs] using this) (E3.one _) (by unfold maxLen; omega) (by omega) HBX.out ?_; intro v3 w4 hown3 hg3 hat3; obtain ⟨a3, c3, rfl⟩ := own_form hown3; clear c0 c1 c2 d0 d1 e1; have hoff := GX.out.bxC.off (orow (.slice aP O2.length cP) O2) (by simp [srows]); have d1 := cell_grown hg3 (GX.out.bxC.cs 1 _ rfl) hoff; have e1 := frz_grown hg3 GX.out.bxC.lt (GX.out.bxC.fz 1 (by simp)) hoff; replace GX := Lib.hid (GX.out.app hg3 hown3 hat3); clear hown3 hg3 hat3 hoff; have c0 := GX.out.bxT.cs 0 _ rfl; have c2 := GX.out.bxT.cs 2 _ rfl; dsimp only at c0 c2))
                    refine (spec_l14Add_any w.heap.size q tn _ vs2 _ GX.out.fam.fam.head HSM2.out (by omega) (by omega)).mono ?_; rintro e w5 ⟨rfl, ho5, hg5⟩
                    replace GX := Lib.hid (GX.out.addY ho5 hg5)
                    clear c0 c2 ho5 hg5 d1 e1 OX HBX
                    have HTL2 := Lib.hid (HRT.out.trans HRL.out.symm)
                    have G0 := Lib.hid (show SIw k w.heap.size w.heap.size (w.heap.size + 1) bx w w5 (.slice a3 (O2.length + 1) c3) (.slice (some ⟨gS, 0, none⟩) T'.length cS) (invTo q tn T2 0) (TM.add q tn ⟨⟨vs2, fm2', (tn : Int)⟩, .slice aV vs.length cV, .slice aF nF cF⟩) (O2 ++ [⟨9, (q : Int), (tn : Int)⟩]) from by rw [invTo_zero]; exact GX.out)
                    have HSMS := Lib.hid hP0.out.sms
                    go_wp2_with fail
                    go_loopw [95] (fun i wr => ∃ m : Nat, m ≤ T2.length ∧ i = .int .i64 m ∧ Hid (SIw k w.heap.size w.heap.size (w.heap.size + 1) bx w wr (.slice a3 (O2.length + 1) c3) (.slice (some ⟨gS, 0, none⟩) T'.length cS) (invTo q tn T2 m) (TM.add q tn ⟨⟨vs2, fm2', (tn : Int)⟩, .slice aV vs.length cV, .slice aF nF cF⟩) (O2 ++ [⟨9, (q : Int), (tn : Int)⟩]))) (fun i _ => T2.length - (intOf i).toNat)
                    case atStart => exact ⟨0, Nat.zero_le _, rfl, G0⟩
                    case round =>
                      clear G0 GX
                      obtain ⟨m, hm, rfl, hG4⟩ := hrel
                      by_cases hlt : m < T2.length
                      · have i4 : (m : Int) < (T'.length : Int) := by have := HTL2.out; omega
                        obtain ⟨z0, z1, z2, z3, z4⟩ := hG4.out.at4 hlt
                        have z5 : wr.cell? ⟨bx, 2, none⟩ = some (.int .i64 (tn : Int)) := hG4.out.bxT.cs 2 _ rfl
                        have HSZ := Lib.hid (HSMS.out T2[m] (by simp))
                        have HBZ := Lib.hid hG4.out.BW
                        have HADD := Lib.hid (fun w5 w6 (hb : Below wr.heap.size wr w5) ho hg => SIw.addAt hlt (w' := w6) (hG4.out.call hb) ho hg)
                        obtain ⟨z, hz⟩ : ∃ z, z = T2[m] := ⟨_, rfl⟩
                        rw [← hz] at z0 z1 z2 z3 z4 HSZ HADD
                        clear hz hG4
                        obtain ⟨⟨zvs, zfm, ztg⟩, zv, zmd⟩ := z
                        obtain ⟨azv, czv, rfl⟩ : ∃ a c, zv = .slice a zvs.length c := own_form z3
                        obtain ⟨azm, czm, rfl⟩ : ∃ a c, zmd = .slice a (setB zfm 5).length c := own_form (show Row.own _ w.heap.size (nrow zmd (setB zfm 5)) from z4)
                        obtain ⟨nz, hnz⟩ : ∃ m, m = (setB zfm 5).length := ⟨_, rfl⟩
                        rw [← hnz] at z1 HADD
                        clear hnz z4
                        have z3 := Lib.hid z3
                        dsimp only at z0 z1 z2
                        have z6 := bel_cell (show Below wr.heap.size wr (wr.alloc (.cells #[.slice azv zvs.length czv, .slice azm nz czm, .int .i64 ztg] 83)) from (by repeat (first | exact Below.refl _ _ | assumption | refine Below.drew ?_ | refine below_drewN ?_ _ | refine Below.alloc ?_ (by first | omega | (simp <;> omega)) _ | refine Below.setCell ?_ (by first | omega | (simp <;> omega)) _ | refine Below.trans ?_ (Below.mono (by assumption) (by first | omega | (simp <;> omega)))))) z5
                        go_wp2_with fail
                        refine (spec_l14Add_any w.heap.size q tn _ zvs _ (own_below z3.out (show Below wr.heap.size wr (wr.alloc (.cells #[.slice azv zvs.length czv, .slice azm nz czm, .int .i64 ztg] 83)) from (by repeat (first | exact Below.refl _ _ | assumption | refine Below.drew ?_ | refine below_drewN ?_ _ | refine Below.alloc ?_ (by first | omega | (simp <;> omega)) _ | refine Below.setCell ?_ (by first | omega | (simp <;> omega)) _ | refine Below.trans ?_ (Below.mono (by assumption) (by first | omega | (simp <;> omega)))))) rfl) HSZ.out (by omega) (by omega)).mono ?_; rintro e w6 ⟨rfl, ho6, hg6⟩
                        have HZ := Lib.hid (HADD.out _ w6 (by repeat (first | exact Below.refl _ _ | assumption | refine Below.drew ?_ | refine below_drewN ?_ _ | refine Below.alloc ?_ (by first | omega | (simp <;> omega)) _ | refine Below.setCell ?_ (by first | omega | (simp <;> omega)) _ | refine Below.trans ?_ (Below.mono (by assumption) (by first | omega | (simp <;> omega))))) ho6 hg6)
                        clear ho6 hg6
                        go_wp2_with fail
                        go_roundw
                        case rel => exact ⟨m + 1, hlt, by go_num, HZ⟩
                        case measure => simp [intOf]; omega
                      · have HZ := Lib.hid (show SIw k w.heap.size w.heap.size (w.heap.size + 1) bx w wr (.slice a3 (O2.length + 1) c3) (.slice (some ⟨gS, 0, none⟩) T'.length cS) (T2.map (TM.add q tn)) (TM.add q tn ⟨⟨vs2, fm2', (tn : Int)⟩, .slice aV vs.length cV, .slice aF nF cF⟩) (O2 ++ [⟨9, (q : Int), (tn : Int)⟩]) from by rw [← invTo_all (Nat.le_of_not_lt hlt)]; exact hG4.out)
                        have i4 : ¬ (m : Int) < (T'.length : Int) := by have := HTL2.out; omega
                        clear hG4
                        go_wp2_with fail
                        go_roundw
                        case rel => exact ⟨q + 1, _, _, _, _, by omega, by go_num, HZ, HN, (show (Value.slice aF nF cF) = _ from rfl), (show _ → _ from fun h9 => absurd h9 (by omega))⟩
                        case measure => simp [intOf]; omega
                  · have hzp : (0 : Int) < (ng : Int) := by omega
                    have HN := Lib.hid (HPn.out (by rw [HGH.out]; exact decide_eq_false hz))
                    clear HPn HPy
                    go_wp2_with fail
                    go_roundw
                    case rel => exact ⟨q + 1, _, _, _, _, by omega, by go_num, hG, HN, (show (Value.slice aF nF cF) = _ from rfl), (show _ → _ from fun h9 => absurd h9 (by omega))⟩
                    case measure => simp [intOf]; omega
              · have hstop : ((q : Int) < (k : Int) ∧ tg2 < 0) ∨ (¬ (q : Int) < (k : Int) ∧ ¬ tg2 < 0) := by
                  rcases Int.lt_or_le tg2 0 with h1 | h1
                  · exact .inl ⟨by have := hT0.out h1; omega, h1⟩
                  · exact .inr ⟨by omega, by omega⟩
                have HI := Lib.hid (hP.out.done (show (tg2 < 0 ∧ q = 0) ∨ (0 ≤ tg2 ∧ q = k) from by
                  rcases Int.lt_or_le tg2 0 with h1 | h1
                  · exact .inl ⟨h1, hT0.out h1⟩
                  · exact .inr ⟨h1, by omega⟩))
                have HTL2 := Lib.hid (HRT.out.trans HRL.out.symm)
                clear hP hin HRT hT0
                go_upto_region 13 with fail
                go_cut [63] (fun s63 wx => s63 = .bool false ∧ wx = wr)
                case first =>
                  rcases hstop with ⟨i1, i2⟩ | ⟨i1, i2⟩
                  · go_wp2_with fail
                    go_meet
                    exact ⟨by rw [decide_eq_false (by omega)], rfl⟩
                  · go_wp2_with fail
                    go_meet
                    exact ⟨rfl, rfl⟩
                case rest =>
                  obtain ⟨rfl, rfl⟩ := hcut
                  clear hstop
                  go_wp2_with fail
                  have G0 := hG
                  go_loopw [13, 14, 109] (fun sb sm i wx => ∃ m : Nat, m ≤ nF ∧ sb = .int .i64 (gSp vs2 (setB fm2' 5) m).1 ∧ sm = .int .i64 (gSp vs2 (setB fm2' 5) m).2 ∧ i = .int .i64 m ∧ Hid (SIw k w.heap.size w.heap.size (w.heap.size + 1) bx w wx vP (.slice (some ⟨gS, 0, none⟩) T'.length cS) T2 ⟨⟨vs2, fm2', tg2⟩, .slice aV vs.length cV, .slice aF nF cF⟩ O2)) (fun _ _ i _ => nF - (intOf i).toNat)
                  case atStart => exact ⟨0, Nat.zero_le _, rfl, rfl, rfl, G0⟩
                  case round =>
                    clear G0 hG c0 c1 c2 d0 d1 e1
                    obtain ⟨m, hm, rfl, rfl, rfl, hG⟩ := hrel
                    by_cases hlt : m < nF
                    · skip
                      have i5 : (m : Int) < (nF : Int) := by omega
                      have hml5 : m < (setB fm2' 5).length := by rw [← HNF.out]; exact hlt
                      obtain ⟨gF, rfl, hgF, cj⟩ := frow_at (show Row.own wr w.heap.size (nrow (.slice aF nF cF) (setB fm2' 5)) from hG.out.fam.own (frow ⟨⟨vs2, fm2', tg2⟩, .slice aV vs.length cV, .slice aF nF cF⟩) (by simp)) hml5
                      have HSP := Lib.hid (gSp_succ (vs := vs2) hml5)
                      have hj5 : (setB fm2' 5).getD m 0 < 5 := (setB_mem (y := fm2') (k := 5) (by rw [show (setB fm2' 5).getD m 0 = (setB fm2' 5)[m] from by simp [List.getD, hml5]]; exact List.getElem_mem hml5)).1
                      obtain ⟨j, hj⟩ : ∃ j, j = (setB fm2' 5).getD m 0 := ⟨_, rfl⟩
                      rw [← hj] at cj HSP hj5
                      clear hj hml5
                      obtain ⟨sp, hsp⟩ : ∃ s, s = gSp vs2 (setB fm2' 5) m := ⟨_, rfl⟩
                      rw [← hsp] at HSP ⊢
                      clear hsp
                      obtain ⟨sb, sm⟩ := sp
                      dsimp only
                      have c0 := hG.out.bxT.cs 0 _ rfl
                      dsimp only at c0
                      replace HRD := Lib.hid (nrow_rd (show Row.own wr w.heap.size (nrow (.slice aV vs.length cV) vs2) from hG.out.fam.fam.head))
                      go_upto_region 27 with fail
                      replace hG := Lib.hid (hG.out.call (show Below wr.heap.size wr wr.drew from (by repeat (first | exact Below.refl _ _ | assumption | refine Below.drew ?_ | refine below_drewN ?_ _ | refine Below.alloc ?_ (by first | omega | (simp <;> omega)) _ | refine Below.setCell ?_ (by first | omega | (simp <;> omega)) _ | refine Below.trans ?_ (Below.mono (by assumption) (by first | omega | (simp <;> omega)))))))
                      replace HRD := Lib.hid (Rd.below HRD.out (show Below wr.heap.size wr wr.drew from (by repeat (first | exact Below.refl _ _ | assumption | refine Below.drew ?_ | refine below_drewN ?_ _ | refine Below.alloc ?_ (by first | omega | (simp <;> omega)) _ | refine Below.setCell ?_ (by first | omega | (simp <;> omega)) _ | refine Below.trans ?_ (Below.mono (by assumption) (by first | omega | (simp <;> omega)))))) rfl)
                      replace c0 := cell_drew c0
                      obtain ⟨n0, hn0⟩ : ∃ n, n = (gSet vs2 j false).length := ⟨_, rfl⟩
                      obtain ⟨n1x, hn1⟩ : ∃ n, n = (gSet vs2 j true).length := ⟨_, rfl⟩
                      have HS0 := Lib.hid (fun w9 (h9 : RdI w9 (.slice aV vs.length cV) (ints vs2)) => (spec_l14Set_0 j _ vs2 w9 h9 HSM2.out hj5).mono (fun e w2 h8 => (show ∃ a c, e = .returned (.slice a n0 c) ∧ Below w9.heap.size w9 w2 from by
                        obtain ⟨u, rfl, hou, hbb⟩ := h8
                        obtain ⟨a0, c0x, rfl⟩ : ∃ a c, u = .slice a (gSet vs2 j false).length c := own_form hou
                        exact ⟨a0, c0x, by rw [hn0], hbb⟩)))
                      have HS1 := Lib.hid (fun w9 (h9 : RdI w9 (.slice aV vs.length cV) (ints vs2)) => (spec_l14Set_1 j _ vs2 w9 h9 HSM2.out hj5).mono (fun e w2 h8 => (show ∃ a c, e = .returned (.slice a n1x c) ∧ Below w9.heap.size w9 w2 from by
                        obtain ⟨u, rfl, hou, hbb⟩ := h8
                        obtain ⟨a0, c0x, rfl⟩ : ∃ a c, u = .slice a (gSet vs2 j true).length c := own_form hou
                        exact ⟨a0, c0x, by rw [hn1], hbb⟩)))
                      have HGM := Lib.hid (show gMost vs2 j = max n1x n0 from by rw [hn0, hn1]; rfl)
                      clear hn0 hn1
                      refine AnyB.begin (S := (fun w' => w'.cell? ⟨bx, 0, none⟩ = some (.slice aV vs.length cV))) [] (by kernel_rfl) ?_ (fun hHeld0 => ?_)
                      · ((try dsimp only); (exact c0))
                      refine AnyB.takeQ (i := 0) (oi := _) (v := ?_) (by simp only [List.getElem?_toArray, List.getElem?_cons_zero, List.getElem?_cons_succ]; rfl) (by kernel_rfl) (by kernel_rfl) (by kernel_rfl) (by intro _ _ _ h; exact h) (Or.inl ⟨by rfl, ?_⟩) ?_
                      rotate_left
                      · (intro w hSw; (try dsimp only at hSw); go_simp; (try (with_reducible rfl)))
                      try simp only [Act.put, List.setIfInBounds_toArray, List.set_cons_zero, List.set_cons_succ]
                      refine AnyB.take (i := 1) (oi := _) (v := ?_) (by simp only [List.getElem?_toArray, List.getElem?_cons_zero, List.getElem?_cons_succ]; rfl) (by kernel_rfl) (by kernel_rfl) (by kernel_rfl) (by kernel_rfl) (by kernel_rfl) (by intro _ _ _ h; exact h) (Or.inl ⟨by rfl, ?_⟩) (by assumption) ?_
                      rotate_left
                      · (intro w hSw; (try dsimp only at hSw); go_simp; (try (with_reducible rfl)))
                      try simp only [Act.put, List.setIfInBounds_toArray, List.set_cons_zero, List.set_cons_succ]
                      refine AnyB.takeQ (i := 2) (oi := _) (v := ?_) (by simp only [List.getElem?_toArray, List.getElem?_cons_zero, List.getElem?_cons_succ]; rfl) (by kernel_rfl) (by kernel_rfl) (by kernel_rfl) (by intro _ _ _ h; exact h) (Or.inl ⟨by rfl, ?_⟩) ?_
                      rotate_left
                      · (intro w hSw; (try dsimp only at hSw); go_simp; (try (with_reducible rfl)))
                      try simp only [Act.put, List.setIfInBounds_toArray, List.set_cons_zero, List.set_cons_succ]
                      refine AnyB.takeQ (i := 5) (oi := _) (v := ?_) (by simp only [List.getElem?_toArray, List.getElem?_cons_zero, List.getElem?_cons_succ]; rfl) (by kernel_rfl) (by kernel_rfl) (by kernel_rfl) (by intro _ _ _ h; exact h) (Or.inl ⟨by rfl, ?_⟩) ?_
                      rotate_left
                      · (intro w hSw; (try dsimp only at hSw); go_simp; (try (with_reducible rfl)))
                      try simp only [Act.put, List.setIfInBounds_toArray, List.set_cons_zero, List.set_cons_succ]
                      refine AnyB.take (i := 6) (oi := _) (v := ?_) (by simp only [List.getElem?_toArray, List.getElem?_cons_zero, List.getElem?_cons_succ]; rfl) (by kernel_rfl) (by kernel_rfl) (by kernel_rfl) (by kernel_rfl) (by kernel_rfl) (by intro _ _ _ h; exact h) (Or.inl ⟨by rfl, ?_⟩) (by assumption) ?_
                      rotate_left
                      · (intro w hSw; (try dsimp only at hSw); go_simp; (try (with_reducible rfl)))
                      try simp only [Act.put, List.setIfInBounds_toArray, List.set_cons_zero, List.set_cons_succ]
                      refine AnyB.takeQ (i := 7) (oi := _) (v := ?_) (by simp only [List.getElem?_toArray, List.getElem?_cons_zero, List.getElem?_cons_succ]; rfl) (by kernel_rfl) (by kernel_rfl) (by kernel_rfl) (by intro _ _ _ h; exact h) (Or.inl ⟨by rfl, ?_⟩) ?_
                      rotate_left
                      · (intro w hSw; (try dsimp only at hSw); go_simp; (try (with_reducible rfl)))
                      try simp only [Act.put, List.setIfInBounds_toArray, List.set_cons_zero, List.set_cons_succ]
                      refine AnyB.each (rs := [3]) (by kernel_rfl) (by simp) ?_
                      refine EachB.cons rfl (fun K hK hB => ?_) ?_
                      · skip
                        (go_simp; go_at_call 46; refine (HS0.out _ HRD.out).mono ?_; rintro e w2 ⟨a0, c0x, rfl, hbb⟩; replace c0 := bel_cell hbb c0; replace HRD := Lib.hid (Rd.below HRD.out hbb rfl); replace hG := Lib.hid (hG.out.call hbb); clear hbb; dsimp only)
                        refine hK.out _ _ ?_ (fun hHeld1 => ?_)
                        · ((try dsimp only); (exact c0))
                        clear hB hK K hHeld0
                        refine AnyB.takeQ (i := 4) (oi := _) (v := ?_) (by simp only [List.getElem?_toArray, List.getElem?_cons_zero, List.getElem?_cons_succ]; rfl) (by kernel_rfl) (by kernel_rfl) (by kernel_rfl) (by intro _ _ _ h; exact h) (Or.inl ⟨by rfl, ?_⟩) ?_
                        rotate_left
                        · (intro w hSw; (try dsimp only at hSw); go_simp; (try (with_reducible rfl)))
                        try simp only [Act.put, List.setIfInBounds_toArray, List.set_cons_zero, List.set_cons_succ]
                        refine AnyB.each (rs := [8]) (by kernel_rfl) (by simp) ?_
                        refine EachB.cons rfl (fun K hK hB => ?_) ?_
                        · skip
                          (go_simp; go_at_call 46; refine (HS1.out _ HRD.out).mono ?_; rintro e w3 ⟨a1, c1x, rfl, hbb⟩; replace c0 := bel_cell hbb c0; replace HRD := Lib.hid (Rd.below HRD.out hbb rfl); replace hG := Lib.hid (hG.out.call hbb); clear hbb; dsimp only)
                          refine hK.out _ _ ?_ (fun hHeld2 => ?_)
                          · ((try dsimp only); (exact c0))
                          clear hB hK K hHeld1
                          refine AnyB.takeQ (i := 9) (oi := _) (v := ?_) (by simp only [List.getElem?_toArray, List.getElem?_cons_zero, List.getElem?_cons_succ]; rfl) (by kernel_rfl) (by kernel_rfl) (by kernel_rfl) (by intro _ _ _ h; exact h) (Or.inl ⟨by rfl, ?_⟩) ?_
                          rotate_left
                          · (intro w hSw; (try dsimp only at hSw); go_simp; (try (with_reducible rfl)))
                          try simp only [Act.put, List.setIfInBounds_toArray, List.set_cons_zero, List.set_cons_succ]
                          refine AnyB.each (rs := [10]) (by kernel_rfl) (by simp) ?_
                          refine EachB.cons rfl (fun K hK hB => ?_) ?_
                          · skip
                            (go_simp; go_at_call 48; refine (spec_l1Most_any n0 n1x _).mono ?_; rintro e w4 ⟨rfl, rfl⟩; dsimp only)
                            refine hK.out _ _ ?_ (fun hHeld3 => ?_)
                            · ((try dsimp only); (exact c0))
                            clear hB hK K hHeld2
                            refine AnyB.takeQ (i := 11) (oi := _) (v := ?_) (by simp only [List.getElem?_toArray, List.getElem?_cons_zero, List.getElem?_cons_succ]; rfl) (by kernel_rfl) (by kernel_rfl) (by kernel_rfl) (by intro _ _ _ h; exact h) (Or.inl ⟨by rfl, ?_⟩) ?_
                            rotate_left
                            · (intro w hSw; (try dsimp only at hSw); go_simp; (try (with_reducible rfl)))
                            try simp only [Act.put, List.setIfInBounds_toArray, List.set_cons_zero, List.set_cons_succ]
                            refine AnyB.none (by kernel_rfl) ?_ _
                            by_cases hgt : sm < ((max n0 n1x : Nat) : Int)
                            · have HN := Lib.hid (show gSp vs2 (setB fm2' 5) (m + 1) = ((j : Int), ((max n0 n1x : Nat) : Int)) from by rw [HSP.out]; unfold gB; rw [HGM.out, Nat.max_comm, if_pos hgt])
                              go_wp2_with fail
                              go_roundw
                              case rel => exact ⟨m + 1, by omega, by rw [HN.out], by rw [HN.out], by go_num, hG⟩
                              case measure => simp [intOf]; omega
                            · have HN := Lib.hid (show gSp vs2 (setB fm2' 5) (m + 1) = (sb, sm) from by rw [HSP.out]; unfold gB; rw [HGM.out, Nat.max_comm, if_neg hgt])
                              go_wp2_with fail
                              go_roundw
                              case rel => exact ⟨m + 1, by omega, by rw [HN.out], by rw [HN.out], by go_num, hG⟩
                              case measure => simp [intOf]; omega
                          exact EachB.nil
                        exact EachB.nil
                      exact EachB.nil
                    · obtain rfl : m = nF := by omega
                      have hv2 : vs2 ≠ [] := fun e => hvp (by rw [← HVL2.out, e]; rfl)
                      have hbest := gSp_best hv2 fm2'
                      rw [← HNF.out] at hbest
                      rw [hbest]
                      clear hbest hv2 hlt hm
                      generalize (gSp vs2 (setB fm2' 5) m).2 = mst
                      have i5 : ¬ (m : Int) < (m : Int) := by omega
                      rcases gBest_mem vs2 fm2' with hbm | ⟨j, hj, hbm⟩
                      · have GB := Lib.hid hbm
                        rw [hbm]
                        clear hbm
                        go_wp2_with fail
                        go_roundg f
                        case measure => omega
                        case rel => exact ⟨_, _, T2, O2, rfl, (show SMem _ _ _ _ _ _ _ _ _ _ _ _ from SIw.stop n5 INV.out RUN.out HV0.out HI.out (by show gBest vs2 fm2' < 0; rw [GB.out]; omega) hG.out)⟩
                      · have hjn := free_lt fm2 hj
                        have hj5 : j < 5 := (setB_mem hj).1
                        have hf32 : fm2' < 32 := by have := pow5 n5; omega
                        have hra := Lib.hid (restTo_all hf32 hj)
                        generalize wr = W6 at *
                        have HSPL : Hid (∀ (d u1 u2 v3 : Value) (W1 W2 W3 w' : World) (tg : Int), tg = (if tg2 < 0 then (j : Int) else tg2) → Below W6.heap.size W6 W1 → Row.own W1 W6.heap.size (nrow d (setB (clearB fm2' j) 5)) → Below W1.heap.size W1 W2 → Fam W2 W1.heap.size [nrow u2 (gSet vs2 j false), nrow u1 (gSet vs2 j true)] → Below W2.heap.size W2 W3 → W3.grownBy w' (Value.slice (some ⟨gS, 0, none⟩) T'.length cS).ownBlock → w'.ownsRow w.heap.size 83 3 v3 (T'.length + 2) (T2.flatMap TM.cs ++ ((tkS (gSet vs2 j true) (clearB fm2' j) tg u1 d).cs ++ (tkS (gSet vs2 j false) (clearB fm2' j) tg2 u2 d).cs)) → (v3.ownBlock = (Value.slice (some ⟨gS, 0, none⟩) T'.length cS).ownBlock ∨ v3.ownBlock = some W3.heap.size) → SMem k masks w.heap.size f w.heap.size (w.heap.size + 1) w w' vP v3 (T2 ++ [tkS (gSet vs2 j true) (clearB fm2' j) tg u1 d, tkS (gSet vs2 j false) (clearB fm2' j) tg2 u2 d]) O2) := (fun d u1 u2 v3 W1 W2 W3 w' tg h1 h2 h3 h4 h5 h6 h7 h8 h9 => SIw.split n5 INV.out RUN.out HV0.out HI.out hj hjn hbm h1 hG.out h2 h3 h4 h5 h6 h7 (by rw [HTL2.out]; exact h8) h9)
                        rw [hbm]
                        clear hbm hj
                        have c1 := hG.out.bxT.cs 1 _ rfl
                        dsimp only at c1
                        go_wp2_with fail
                        have O6 := Lib.hid (show Row.own W6 W6.heap.size (nrow (.slice none 0 0) (restTo fm2' j 0)) from World.ownsRow_nil _ _ _ _)
                        have HBL0 := Lib.hid (Below.refl W6.heap.size W6)
                        go_loopw [18, 135] (fun sd i wx => ∃ (p : Nat) (d : Value), d = sd ∧ p ≤ m ∧ i = .int .i64 p ∧ Hid (Row.own wx W6.heap.size (nrow d (restTo fm2' j p))) ∧ Hid (Below W6.heap.size W6 wx) ∧ W6.heap.size ≤ wx.heap.size) (fun _ i _ => m - (intOf i).toNat)
                        case atStart => exact ⟨0, _, rfl, Nat.zero_le _, rfl, O6, HBL0, Nat.le_refl _⟩
                        case round =>
                          clear O6 HBL0
                          obtain ⟨p, d, rfl, hp, rfl, hO, hB, hsz⟩ := hrel
                          by_cases hlt : p < m
                          · skip
                            have i6 : (p : Int) < (m : Int) := by omega
                            have hml5 : p < (setB fm2' 5).length := by rw [← HNF.out]; exact hlt
                            obtain ⟨gF, rfl, hgF, cj⟩ := frow_at (show Row.own W6 w.heap.size (nrow (.slice aF m cF) (setB fm2' 5)) from hG.out.fam.own (frow ⟨⟨vs2, fm2', tg2⟩, .slice aV vs.length cV, .slice aF m cF⟩) (by simp)) hml5
                            replace cj := (hB.out.cell hgF).trans cj
                            have hx5 : (setB fm2' 5).getD p 0 < 5 := (setB_mem (y := fm2') (k := 5) (by rw [show (setB fm2' 5).getD p 0 = (setB fm2' 5)[p] from by simp [List.getD, hml5]]; exact List.getElem_mem hml5)).1
                            have HRN := Lib.hid (fun h9 => restTo_no (j := j) hml5 h9)
                            have HRY := Lib.hid (fun h9 => restTo_yes (j := j) hml5 h9)
                            obtain ⟨x, hx⟩ : ∃ x, x = (setB fm2' 5).getD p 0 := ⟨_, rfl⟩
                            rw [← hx] at cj HRN HRY hx5
                            clear hx hml5
                            by_cases hxj : x = j
                            · have i7 : ((x : Int) != (j : Int)) = false := by simp [hxj]
                              have HN := Lib.hid (HRN.out hxj)
                              clear HRN HRY hxj
                              go_wp2_with fail
                              go_roundw
                              case rel => exact ⟨p + 1, d, rfl, by omega, by go_num, (show Row.own _ _ _ from by rw [HN.out]; exact hO.out), hB, hsz⟩
                              case measure => simp [intOf]; omega
                            · have i7 : ((x : Int) != (j : Int)) = true := by simp; omega
                              have HN := Lib.hid (HRY.out hxj)
                              clear HRN HRY hxj
                              have hrl := restTo_len fm2' j p
                              obtain ⟨L, hL⟩ : ∃ L, L = restTo fm2' j p := ⟨_, rfl⟩
                              rw [← hL] at hO HN hrl
                              clear hL
                              have OX := Lib.hid (show (wr.alloc (.cells #[.int .i64 (x : Int)] 3)).ownsRow W6.heap.size 3 1 d L.length ((ints L).map (Value.int .i64)) from World.ownsRow.alloc (show wr.ownsRow W6.heap.size 3 1 d L.length ((ints L).map (Value.int .i64)) from hO.out) _)
                              have hbX := Lib.hid (Below.alloc hB.out hsz (.cells #[.int .i64 (x : Int)] 3))
                              go_wp2_with (at_builtin; go_must (refine wpList_append_any _ rfl _ _ 23 rfl W6.heap.size 3 j0 (.int .i64 0) 1 8 Try.underlying23 hjj hy0 hy1 hy2 rfl (by decide) _ L.length _ rfl OX.out (wr.heap.size + 1) _ 1 1 [.int .i64 (x : Int)] rfl (one_reads wr x) (one_one _) (by unfold maxLen; omega) (by omega) (by simp; omega) ?_; intro v3 w4 hown3 hg3 hat3; have S4 := Lib.hid (show Row.own w4 W6.heap.size (nrow v3 (restTo fm2' j (p + 1))) from (by rw [HN.out]; exact nrow_app hown3)); have B4 := Lib.hid (grown_below hbX.out OX.out hg3 (Nat.le_refl _) (by simp; omega)); have z4 := hg3.size; (simp at z4); clear hown3 hg3 hat3))
                              go_roundw
                              case rel => exact ⟨p + 1, v3, rfl, by omega, by go_num, S4, B4, by omega⟩
                              case measure => simp [intOf]; omega
                          · obtain rfl : p = m := by omega
                            clear hlt hp
                            have i6 : ¬ (p : Int) < (p : Int) := by omega
                            rw [show restTo fm2' j p = setB (clearB fm2' j) 5 from by rw [HNF.out]; exact hra.out] at hO
                            clear hra
                            obtain ⟨nR, hnR⟩ : ∃ n, n = (setB (clearB fm2' j) 5).length := ⟨_, rfl⟩
                            obtain ⟨aD, cD, rfl⟩ : ∃ a c, d = .slice a nR c := by rw [hnR]; exact own_form hO.out
                            clear hnR
                            have GZ := Lib.hid (hG.out.call hB.out)
                            have c0 := GZ.out.bxT.cs 0 _ rfl
                            have c2 := GZ.out.bxT.cs 2 _ rfl
                            dsimp only at c0 c2
                            have HRZ := Lib.hid (nrow_rd (show Row.own wr w.heap.size (nrow (.slice aV vs.length cV) vs2) from GZ.out.fam.fam.head))
                            obtain ⟨L1, hL1⟩ : ∃ L, L = gSet vs2 j true := ⟨_, rfl⟩
                            obtain ⟨L2, hL2⟩ : ∃ L, L = gSet vs2 j false := ⟨_, rfl⟩
                            obtain ⟨cf, hcf⟩ : ∃ c, c = clearB fm2' j := ⟨_, rfl⟩
                            have HS1 := Lib.hid (fun w9 (h9 : RdI w9 (.slice aV vs.length cV) (ints vs2)) => (spec_l14Set_1 j _ vs2 w9 h9 HSM2.out hj5))
                            have HS0 := Lib.hid (fun w9 (h9 : RdI w9 (.slice aV vs.length cV) (ints vs2)) => (spec_l14Set_0 j _ vs2 w9 h9 HSM2.out hj5))
                            rw [← hL1] at HS1
                            rw [← hL2] at HS0
                            rw [← hL1, ← hL2, ← hcf] at HSPL
                            rw [← hcf] at hO
                            clear hL1 hL2 hcf
                            obtain ⟨n1x, hn1⟩ : ∃ n, n = L1.length := ⟨_, rfl⟩
                            obtain ⟨n2x, hn2⟩ : ∃ n, n = L2.length := ⟨_, rfl⟩
                            have HF1 : Hid (∀ (w9 : World) (B : Nat) (u : Value), Row.own w9 B (nrow u L1) → ∃ a c, u = .slice a n1x c) := (fun w9 B u h9 => by rw [hn1]; exact own_form h9)
                            have HF2 : Hid (∀ (w9 : World) (B : Nat) (u : Value), Row.own w9 B (nrow u L2) → ∃ a c, u = .slice a n2x c) := (fun w9 B u h9 => by rw [hn2]; exact own_form h9)
                            clear hn1 hn2
                            obtain ⟨tgt, htg⟩ : ∃ t, t = if tg2 < 0 then (j : Int) else tg2 := ⟨_, rfl⟩
                            go_upto_if 150 with fail
                            go_cut [21] (fun s21 wx => s21 = .int .i64 tgt ∧ wx = wr)
                            case first =>
                              by_cases i2 : tg2 < 0
                              · rw [if_pos i2] at htg
                                subst htg
                                go_wp2_with fail
                                go_meet
                                exact ⟨rfl, rfl⟩
                              · rw [if_neg i2] at htg
                                subst htg
                                go_wp2_with fail
                                go_meet
                                exact ⟨rfl, rfl⟩
                            case rest =>
                              obtain ⟨rfl, rfl⟩ := hcut
                              have HTG := Lib.hid htg
                              clear htg
                              go_upto_region 43 with fail
                              have HD1 := Lib.hid (own_below hO.out (show Below wc.heap.size wc wc.drew from (by repeat (first | exact Below.refl _ _ | assumption | refine Below.drew ?_ | refine below_drewN ?_ _ | refine Below.alloc ?_ (by first | omega | (simp <;> omega)) _ | refine Below.setCell ?_ (by first | omega | (simp <;> omega)) _ | refine Below.trans ?_ (Below.mono (by assumption) (by first | omega | (simp <;> omega)))))) rfl)
                              have HB1 := Lib.hid (show Below W6.heap.size W6 wc.drew from Below.trans hB.out ((show Below wc.heap.size wc wc.drew from (by repeat (first | exact Below.refl _ _ | assumption | refine Below.drew ?_ | refine below_drewN ?_ _ | refine Below.alloc ?_ (by first | omega | (simp <;> omega)) _ | refine Below.setCell ?_ (by first | omega | (simp <;> omega)) _ | refine Below.trans ?_ (Below.mono (by assumption) (by first | omega | (simp <;> omega)))))).mono hsz))
                              replace GZ := Lib.hid (GZ.out.call (show Below wc.heap.size wc wc.drew from (by repeat (first | exact Below.refl _ _ | assumption | refine Below.drew ?_ | refine below_drewN ?_ _ | refine Below.alloc ?_ (by first | omega | (simp <;> omega)) _ | refine Below.setCell ?_ (by first | omega | (simp <;> omega)) _ | refine Below.trans ?_ (Below.mono (by assumption) (by first | omega | (simp <;> omega)))))))
                              replace HRZ := Lib.hid (Rd.below HRZ.out (show Below wc.heap.size wc wc.drew from (by repeat (first | exact Below.refl _ _ | assumption | refine Below.drew ?_ | refine below_drewN ?_ _ | refine Below.alloc ?_ (by first | omega | (simp <;> omega)) _ | refine Below.setCell ?_ (by first | omega | (simp <;> omega)) _ | refine Below.trans ?_ (Below.mono (by assumption) (by first | omega | (simp <;> omega)))))) rfl)
                              replace c0 := cell_drew c0
                              replace c2 := cell_drew c2
                              refine AnyB.begin (S := (fun w' => w'.cell? ⟨bx, 0, none⟩ = some (.slice aV vs.length cV) ∧ w'.cell? ⟨bx, 2, none⟩ = some (.int .i64 tg2))) [] (by kernel_rfl) ?_ (fun hHeld0 => ?_)
                              · ((try dsimp only); (first | exact ⟨c0, c2⟩ | exact ⟨cell_alloc_keep _ c0, cell_alloc_keep _ c2⟩))
                              refine AnyB.takeQ (i := 0) (oi := _) (v := ?_) (by simp only [List.getElem?_toArray, List.getElem?_cons_zero, List.getElem?_cons_succ]; rfl) (by kernel_rfl) (by kernel_rfl) (by kernel_rfl) (by intro _ _ _ h; exact h) (Or.inl ⟨by rfl, ?_⟩) ?_
                              rotate_left
                              · (intro w hSw; (try dsimp only at hSw); go_simp; (try (with_reducible rfl)))
                              try simp only [Act.put, List.setIfInBounds_toArray, List.set_cons_zero, List.set_cons_succ]
                              refine AnyB.takeQ (i := 1) (oi := _) (v := ?_) (by simp only [List.getElem?_toArray, List.getElem?_cons_zero, List.getElem?_cons_succ]; rfl) (by kernel_rfl) (by kernel_rfl) (by kernel_rfl) (by intro _ _ _ h; exact h) (Or.inl ⟨by rfl, ?_⟩) ?_
                              rotate_left
                              · (intro w hSw; (try dsimp only at hSw); go_simp; (try (with_reducible rfl)))
                              try simp only [Act.put, List.setIfInBounds_toArray, List.set_cons_zero, List.set_cons_succ]
                              refine AnyB.take (i := 2) (oi := _) (v := ?_) (by simp only [List.getElem?_toArray, List.getElem?_cons_zero, List.getElem?_cons_succ]; rfl) (by kernel_rfl) (by kernel_rfl) (by kernel_rfl) (by kernel_rfl) (by kernel_rfl) (by intro _ _ _ h; exact h) (Or.inl ⟨by rfl, ?_⟩) (by assumption) ?_
                              rotate_left
                              · (intro w hSw; (try dsimp only at hSw); go_simp; (try (with_reducible rfl)))
                              try simp only [Act.put, List.setIfInBounds_toArray, List.set_cons_zero, List.set_cons_succ]
                              refine AnyB.takeQ (i := 3) (oi := _) (v := ?_) (by simp only [List.getElem?_toArray, List.getElem?_cons_zero, List.getElem?_cons_succ]; rfl) (by kernel_rfl) (by kernel_rfl) (by kernel_rfl) (by intro _ _ _ h; exact h) (Or.inl ⟨by rfl, ?_⟩) ?_
                              rotate_left
                              · (intro w hSw; (try dsimp only at hSw); go_simp; (try (with_reducible rfl)))
                              try simp only [Act.put, List.setIfInBounds_toArray, List.set_cons_zero, List.set_cons_succ]
                              refine AnyB.takeQ (i := 5) (oi := _) (v := ?_) (by simp only [List.getElem?_toArray, List.getElem?_cons_zero, List.getElem?_cons_succ]; rfl) (by kernel_rfl) (by kernel_rfl) (by kernel_rfl) (by intro _ _ _ h; exact h) (Or.inl ⟨by rfl, ?_⟩) ?_
                              rotate_left
                              · (intro w hSw; (try dsimp only at hSw); go_simp; (try (with_reducible rfl)))
                              try simp only [Act.put, List.setIfInBounds_toArray, List.set_cons_zero, List.set_cons_succ]
                              refine AnyB.takeQ (i := 6) (oi := _) (v := ?_) (by simp only [List.getElem?_toArray, List.getElem?_cons_zero, List.getElem?_cons_succ]; rfl) (by kernel_rfl) (by kernel_rfl) (by kernel_rfl) (by intro _ _ _ h; exact h) (Or.inl ⟨by rfl, ?_⟩) ?_
                              rotate_left
                              · (intro w hSw; (try dsimp only at hSw); go_simp; (try (with_reducible rfl)))
                              try simp only [Act.put, List.setIfInBounds_toArray, List.set_cons_zero, List.set_cons_succ]
                              refine AnyB.takeQ (i := 8) (oi := _) (v := ?_) (by simp only [List.getElem?_toArray, List.getElem?_cons_zero, List.getElem?_cons_succ]; rfl) (by kernel_rfl) (by kernel_rfl) (by kernel_rfl) (by intro _ _ _ h; exact h) (Or.inl ⟨by rfl, ?_⟩) ?_
                              rotate_left
                              · (intro w hSw; (try dsimp only at hSw); go_simp; (try (with_reducible rfl)))
                              try simp only [Act.put, List.setIfInBounds_toArray, List.set_cons_zero, List.set_cons_succ]
                              refine AnyB.take (i := 9) (oi := _) (v := ?_) (by simp only [List.getElem?_toArray, List.getElem?_cons_zero, List.getElem?_cons_succ]; rfl) (by kernel_rfl) (by kernel_rfl) (by kernel_rfl) (by kernel_rfl) (by kernel_rfl) (by intro _ _ _ h; exact h) (Or.inl ⟨by rfl, ?_⟩) (by assumption) ?_
                              rotate_left
                              · (intro w hSw; (try dsimp only at hSw); go_simp; (try (with_reducible rfl)))
                              try simp only [Act.put, List.setIfInBounds_toArray, List.set_cons_zero, List.set_cons_succ]
                              refine AnyB.takeQ (i := 10) (oi := _) (v := ?_) (by simp only [List.getElem?_toArray, List.getElem?_cons_zero, List.getElem?_cons_succ]; rfl) (by kernel_rfl) (by kernel_rfl) (by kernel_rfl) (by intro _ _ _ h; exact h) (Or.inl ⟨by rfl, ?_⟩) ?_
                              rotate_left
                              · (intro w hSw; (try dsimp only at hSw); go_simp; (try (with_reducible rfl)))
                              try simp only [Act.put, List.setIfInBounds_toArray, List.set_cons_zero, List.set_cons_succ]
                              refine AnyB.takeQ (i := 12) (oi := _) (v := ?_) (by simp only [List.getElem?_toArray, List.getElem?_cons_zero, List.getElem?_cons_succ]; rfl) (by kernel_rfl) (by kernel_rfl) (by kernel_rfl) (by intro _ _ _ h; exact h) (Or.inl ⟨by rfl, ?_⟩) ?_
                              rotate_left
                              · (intro w hSw; (try dsimp only at hSw); go_simp; (try (with_reducible rfl)))
                              try simp only [Act.put, List.setIfInBounds_toArray, List.set_cons_zero, List.set_cons_succ]
                              refine AnyB.takeQ (i := 13) (oi := _) (v := ?_) (by simp only [List.getElem?_toArray, List.getElem?_cons_zero, List.getElem?_cons_succ]; rfl) (by kernel_rfl) (by kernel_rfl) (by kernel_rfl) (by intro _ _ _ h; exact h) (Or.inl ⟨by rfl, ?_⟩) ?_
                              rotate_left
                              · (intro w hSw; (try dsimp only at hSw); go_simp; (try (with_reducible rfl)))
                              try simp only [Act.put, List.setIfInBounds_toArray, List.set_cons_zero, List.set_cons_succ]
                              refine AnyB.take (i := 14) (oi := _) (v := ?_) (by simp only [List.getElem?_toArray, List.getElem?_cons_zero, List.getElem?_cons_succ]; rfl) (by kernel_rfl) (by kernel_rfl) (by kernel_rfl) (by kernel_rfl) (by kernel_rfl) (by intro _ _ _ h; exact h) (Or.inl ⟨by rfl, ?_⟩) (by assumption) ?_
                              rotate_left
                              · (intro w hSw; (try dsimp only at hSw); go_simp; (try (with_reducible rfl)))
                              try simp only [Act.put, List.setIfInBounds_toArray, List.set_cons_zero, List.set_cons_succ]
                              refine AnyB.each (rs := [4]) (by kernel_rfl) (by simp) ?_
                              refine EachB.cons rfl (fun K hK hB => ?_) ?_
                              · skip
                                (go_simp; go_at_call 46; refine (HS1.out _ HRZ.out).mono ?_; rintro e w2 ⟨u1, rfl, hou, hbb⟩; obtain ⟨a1, c1x, rfl⟩ := HF1.out _ _ _ hou; have FM1 := Lib.hid (one_fam hou); have BB1 := Lib.hid hbb; have hq2 := hbb.size; replace c0 := bel_cell hbb c0; replace c2 := bel_cell hbb c2; replace HRZ := Lib.hid (Rd.below HRZ.out hbb rfl); replace GZ := Lib.hid (GZ.out.call hbb); clear hou hbb; dsimp only)
                                refine hK.out _ _ ?_ (fun hHeld1 => ?_)
                                · ((try dsimp only); (first | exact ⟨c0, c2⟩ | exact ⟨cell_alloc_keep _ c0, cell_alloc_keep _ c2⟩))
                                clear hB hK K hHeld0
                                refine AnyB.takeQ (i := 7) (oi := _) (v := ?_) (by simp only [List.getElem?_toArray, List.getElem?_cons_zero, List.getElem?_cons_succ]; rfl) (by kernel_rfl) (by kernel_rfl) (by kernel_rfl) (by intro _ _ _ h; exact h) (Or.inl ⟨by rfl, ?_⟩) ?_
                                rotate_left
                                · (intro w hSw; (try dsimp only at hSw); go_simp; (try (with_reducible rfl)))
                                try simp only [Act.put, List.setIfInBounds_toArray, List.set_cons_zero, List.set_cons_succ]
                                refine AnyB.each (rs := [11]) (by kernel_rfl) (by simp) ?_
                                refine EachB.cons rfl (fun K hK hB => ?_) ?_
                                · skip
                                  (go_simp; go_at_call 46; refine (HS0.out _ HRZ.out).mono ?_; rintro e w3 ⟨u2, rfl, hou, hbb⟩; obtain ⟨a2x, c2x, rfl⟩ := HF2.out _ _ _ hou; have FM2 := Lib.hid (FM1.out.add hbb hou hq2); have BB2 := Lib.hid (Below.trans BB1.out (hbb.mono hq2)); have hq3 := hbb.size; replace c0 := bel_cell hbb c0; replace c2 := bel_cell hbb c2; replace GZ := Lib.hid (GZ.out.call hbb); have OX := Lib.hid (show w3.ownsRow w.heap.size 83 3 (.slice (some ⟨gS, 0, none⟩) T'.length cS) T'.length (T2.flatMap TM.cs) from by have h9 : Row.own w3 w.heap.size (trow 83 (.slice (some ⟨gS, 0, none⟩) T'.length cS) T2) := GZ.out.fam.fam.own _ (by simp [srows]); unfold Row.own trow at h9; dsimp only at h9; rw [HTL2.out] at h9; exact h9); have HBW3 := GZ.out.BW; clear hou hbb; dsimp only)
                                  refine hK.out _ _ ?_ (fun hHeld2 => ?_)
                                  · ((try dsimp only); (first | exact ⟨c0, c2⟩ | exact ⟨cell_alloc_keep _ c0, cell_alloc_keep _ c2⟩))
                                  clear hB hK K hHeld1
                                  refine AnyB.takeQ (i := 15) (oi := _) (v := ?_) (by simp only [List.getElem?_toArray, List.getElem?_cons_zero, List.getElem?_cons_succ]; rfl) (by kernel_rfl) (by kernel_rfl) (by kernel_rfl) (by intro _ _ _ h; exact h) (Or.inl ⟨by rfl, ?_⟩) ?_
                                  rotate_left
                                  · (intro w hSw; (try dsimp only at hSw); go_simp; (try (with_reducible rfl)))
                                  try simp only [Act.put, List.setIfInBounds_toArray, List.set_cons_zero, List.set_cons_succ]
                                  refine AnyB.each (rs := [16]) (by kernel_rfl) (by simp) ?_
                                  refine EachB.cons rfl (fun K hK hB => ?_) ?_
                                  · skip
                                    go_simp
                                    refine hK.out _ _ ?_ (fun hHeld3 => ?_)
                                    · ((try dsimp only); (first | exact ⟨c0, c2⟩ | exact ⟨cell_alloc_keep _ c0, cell_alloc_keep _ c2⟩))
                                    clear hB hK K hHeld2
                                    refine AnyB.each (rs := [17]) (by kernel_rfl) (by simp) ?_
                                    refine EachB.cons rfl (fun K hK hB => ?_) ?_
                                    · skip
                                      (refine step_append_lies _ (by rfl) (.tmp 152) (.tmp 168) 84 (by rfl) w.heap.size 83 k0 (.agg #[.slice none 0 0, .slice none 0 0, .int .i64 0]) 3 56 Try.underlying84 hkk hx0 hx1 hx2 rfl (by omega) (.slice (some ⟨gS, 0, none⟩) T'.length cS) T'.length _ (by rfl) (OX.out.alloc _) _ 2 2 [.slice a1 n1x c1x, .slice aD nR cD, .int .i64 tgt, .slice a2x n2x c2x, .slice aD nR cD, .int .i64 tg2] (by rfl) (by rfl) (news_cells w3 [.slice a1 n1x c1x, .slice aD nR cD, .int .i64 tgt, .slice a2x n2x c2x, .slice aD nR cD, .int .i64 tg2] 83) task_two (by omega) (by unfold maxLen; omega) (by omega) (by simp; omega) _ rfl ?_; intro g1 cp1 w9 hown hgr hat hlt9; have SM := Lib.hid (HSPL.out (.slice aD nR cD) (.slice a1 n1x c1x) (.slice a2x n2x c2x) (.slice (some ⟨g1, 0, none⟩) (T'.length + 2) cp1) wc.drew w3 _ w9 tgt HTG.out HB1.out HD1.out BB2.out FM2.out (show Below w3.heap.size w3 (w3.alloc (.cells #[.slice a1 n1x c1x, .slice aD nR cD, .int .i64 tgt, .slice a2x n2x c2x, .slice aD nR cD, .int .i64 tg2] 83)) from (by repeat (first | exact Below.refl _ _ | assumption | refine Below.drew ?_ | refine below_drewN ?_ _ | refine Below.alloc ?_ (by first | omega | (simp <;> omega)) _ | refine Below.setCell ?_ (by first | omega | (simp <;> omega)) _ | refine Below.trans ?_ (Below.mono (by assumption) (by first | omega | (simp <;> omega)))))) hgr hown (hat.imp (fun e => e.symm) (fun e => by rw [e]; rfl))); have hof := GZ.out.bxT.off (trow 83 (.slice (some ⟨gS, 0, none⟩) T'.length cS) T2) (by simp [srows]); replace c0 := cell_grown hgr (cell_alloc_keep _ c0) hof; replace c2 := cell_grown hgr (cell_alloc_keep _ c2) hof; clear hown hgr hat hof)
                                      refine hK.out _ _ ?_ (fun hHeld4 => ?_)
                                      · ((try dsimp only); (first | exact ⟨c0, c2⟩ | exact ⟨cell_alloc_keep _ c0, cell_alloc_keep _ c2⟩))
                                      clear hB hK K hHeld3
                                      refine AnyB.takeQ (i := 18) (oi := _) (v := ?_) (by simp only [List.getElem?_toArray, List.getElem?_cons_zero, List.getElem?_cons_succ]; rfl) (by kernel_rfl) (by kernel_rfl) (by kernel_rfl) (by intro _ _ _ h; exact h) (Or.inl ⟨by rfl, ?_⟩) ?_
                                      rotate_left
                                      · (intro w hSw; (try dsimp only at hSw); go_simp; (try (with_reducible rfl)))
                                      try simp only [Act.put, List.setIfInBounds_toArray, List.set_cons_zero, List.set_cons_succ]
                                      refine AnyB.none (by kernel_rfl) ?_ _
                                      go_wp2_with fail
                                      go_roundg f
                                      case measure => omega
                                      case rel => exact ⟨_, _, _, O2, rfl, SM⟩
                                    exact EachB.nil
                                  exact EachB.nil
                                exact EachB.nil
                              exact EachB.nil
end Go.Proofs.Ytbcjligkjoimmaa
