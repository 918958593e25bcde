/- ParseLog: the reference. -/
import Derived.Test.YtindldkileidmaaDoorPl0
import Derived.Test.YtindldkileidmaaDoorPf3
import Derived.Test.YtindldkileidmaaDoorLg4
import Derived.Test.YtindldkileidmaaDoorBrk
import Derived.BigRegion
import Derived.BigQuiet
import Derived.Deep.DeepCutAuto
namespace Go.Proofs.YtindldkileidmaaDoor
set_option linter.unusedSimpArgs false
set_option linter.unusedVariables false
set_option linter.unnecessarySimpa false
set_option maxRecDepth 200000
open Go.ChangeShapes Go.WideShapes Go.ChangeAt Go.RowKit

theorem rule_yes {j : Nat} {wd : ByteArray} (h1 : 1 ≤ j) (h : wordOf j = wd) : ruleTo wd (j + 1 - 1) = j := by
  obtain ⟨i, rfl⟩ : ∃ i, j = i + 1 := ⟨j - 1, by omega⟩
  show ruleTo wd (i + 1) = i + 1
  unfold ruleTo; rw [if_pos h]
theorem rule_no {j : Nat} {wd : ByteArray} (h1 : 1 ≤ j) (h : ¬ wordOf j = wd) : ruleTo wd (j + 1 - 1) = ruleTo wd (j - 1) := by
  obtain ⟨i, rfl⟩ : ∃ i, j = i + 1 := ⟨j - 1, by omega⟩
  show ruleTo wd (i + 1) = ruleTo wd i
  conv => lhs; unfold ruleTo
  rw [if_neg h]
theorem frz_set {w : World} {a b : Addr} {v : Value} (h : w.frozen? a = false) : (w.setCell b v).frozen? a = false := by simpa using h
theorem reads_rw (w : World) (a b c : Int) : Reads (w.alloc (.cells #[.int .i64 a, .int .i64 b, .int .i64 c] 36)) (w.heap.size + 1) 3 (some ⟨w.heap.size, 0, none⟩) 1 (E3.cs ⟨a, b, c⟩) :=
  ⟨rfl, fun _ => ⟨_, rfl, by simp, news_cells w [_, _, _] _⟩⟩
theorem rw_info : (Tryd.prog.info? 36).map (fun i => (i.zero, i.size, i.bytes)) = some (some (.agg #[.int .i64 0, .int .i64 0, .int .i64 0]), 3, 24) := by kernel_rfl
set_option maxHeartbeats 8000000 in
theorem spec_ParseLog_any (s : ByteArray) (w : World) (hs : s.size ≤ 1048576) :
    Calls Tryd.prog 5 #[.string s] w fun e w' => ∃ v, e = .returned (.tuple #[v, .bool (logQ readG s)]) ∧ OwnE w' w.heap.size 36 v E3.cs 3 (logR readG s) ∧ Below w.heap.size w w' := by
  by_cases hd : s = ⟨#[45]⟩
  · have HR := Lib.hid (show logR readG s = [] from by unfold logR; rw [if_pos hd])
    have HQ := Lib.hid (show logQ readG s = true from by unfold logQ; rw [decide_eq_true hd]; rfl)
    have hdd : (s.toList == [45]) = true := by rw [hd, Lib.toList_data]; rfl
    clear hd
    go_enter Tryd.func5, Tryd.ntmps5
    go_wp2_with fail
    go_ret2
    exact ⟨_, by (rw [HQ.out]; try rfl), by (rw [HR.out]; exact OwnE.nil _ _ _), (by repeat (first | exact Below.refl _ _ | assumption | refine Below.drew ?_ | refine below_drewN ?_ _ | refine Below.alloc ?_ (by first | omega | (simp <;> omega)) _ | refine Below.setCell ?_ (by first | omega | (simp <;> omega)) _ | refine Below.trans ?_ (Below.mono (by assumption) (by first | omega | (simp <;> omega)))))⟩
  · have HR := Lib.hid (show logR readG s = if goodL readG s = true then readL readG s else [] from by unfold logR; rw [if_neg hd])
    have HQ := Lib.hid (show logQ readG s = goodL readG s from by unfold logQ; rw [decide_eq_false hd]; rfl)
    have hdd : (s.toList == [45]) = false := by
      rw [Lib.toList_data, beq_eq_false_iff_ne]
      exact fun e => hd (bytes_inj e)
    clear hd
    obtain ⟨i0, hi, hz0, hz1, hz2⟩ := info_parts rw_info
    go_enter Tryd.func5, Tryd.ntmps5
    go_wp2_with fail
    refine (spec_l1Split_any s 59 _ hs).mono ?_; rintro e w1 ⟨v, ps, rfl, ho, hps, hb1⟩
    obtain rfl := words_of hps
    clear hps
    have hn0 := wordsOf_pos 59 s
    have hn1 := wordsOf_count 59 s
    have hsz := fun t (h : t ∈ wordsOf 59 s) => wordsOf_size h
    have HTK := Lib.hid (fun k (h : k < (wordsOf 59 s).length) => readL_take readG s h)
    have HLN := Lib.hid (readL_len readG s)
    obtain ⟨ps, hp⟩ : ∃ ps, ps = wordsOf 59 s := ⟨_, rfl⟩
    rw [← hp] at hn0 hn1 hsz HTK HLN ho
    clear hp
    obtain ⟨xs, hx⟩ : ∃ xs, xs = readL readG s := ⟨_, rfl⟩
    rw [← hx] at HTK HLN
    have HX := Lib.hid hx
    clear hx
    obtain ⟨g, cap, rfl⟩ := Go.Joins.ownsRow_form ho (by omega)
    have HC := Lib.hid (fun (k : Nat) (hk : k < ps.length) => World.ownsRow.cells ho (g := g) rfl k (.string (ps.getD k ⟨#[]⟩)) (by simp [List.getD, hk]))
    have hgl := (World.ownsRow.lt ho g rfl).2
    clear ho
    have HSZ := Lib.hid (fun (k : Nat) (hk : k < ps.length) => hsz (ps.getD k ⟨#[]⟩) (by simp [List.getD, hk]))
    clear hsz
    have B1 := Lib.hid hb1
    clear hb1
    go_wp2_with fail
    go_loopw [4, 15] (fun so si wr => ∃ (k : Nat) (u : Value), u = so ∧ k ≤ ps.length ∧ si = .int .i64 k ∧ Hid (wr.ownsRow w1.heap.size 36 3 u k ((xs.take k).flatMap E3.cs)) ∧ Hid (Below w1.heap.size w1 wr) ∧ w1.heap.size ≤ wr.heap.size) (fun _ si _ => ps.length - (intOf si).toNat)
    case atStart => exact ⟨0, _, rfl, Nat.zero_le _, rfl, (show World.ownsRow _ _ _ _ _ _ _ from World.ownsRow_nil _ _ _ _), (show Below _ _ _ from (by repeat (first | exact Below.refl _ _ | assumption | refine Below.drew ?_ | refine below_drewN ?_ _ | refine Below.alloc ?_ (by first | omega | (simp <;> omega)) _ | refine Below.setCell ?_ (by first | omega | (simp <;> omega)) _ | refine Below.trans ?_ (Below.mono (by assumption) (by first | omega | (simp <;> omega)))))), Nat.le_refl _⟩
    case round =>
      obtain ⟨k, u, rfl, hk, rfl, hO, hB, hsz⟩ := hrel
      by_cases hlt : k < ps.length
      · have HN := Lib.hid (HTK.out k hlt)
        have c1 := bel_pf hB.out (show w1.cell? ⟨g, k, none⟩ = some (.string (ps.getD k ⟨#[]⟩)) from by have := HC.out k hlt; rwa [Addr.add_lit, Nat.zero_add] at this)
        have ht := HSZ.out k hlt
        obtain ⟨t, htt⟩ : ∃ t, t = ps.getD k ⟨#[]⟩ := ⟨_, rfl⟩
        rw [← htt] at HN c1 ht
        clear htt
        have j1 : (k : Int) < (ps.length : Int) := by omega
        go_wp2_with fail
        refine (spec_l1Split_any t 32 _ (by omega)).mono ?_; rintro e w2 ⟨v2, ws, rfl, ho2, hws, hb2⟩
        rw [← words_of hws] at HN
        have hm0 : 0 < ws.length := by rw [words_of hws]; exact wordsOf_pos 32 t
        have hm1 : ws.length ≤ t.size + 1 := by rw [words_of hws]; exact wordsOf_count 32 t
        have hwz : ∀ i, (ws.getD i ⟨#[]⟩).size ≤ 1048576 := fun i => by
          by_cases h : i < ws.length
          · have h2 : ws.getD i ⟨#[]⟩ ∈ wordsOf 32 t := by rw [← words_of hws]; simp [List.getD, h]
            exact Nat.le_trans (wordsOf_size h2) (by omega)
          · rw [show ws.getD i ⟨#[]⟩ = ⟨#[]⟩ from by simp [List.getD, h]]; decide
        have HWZ := Lib.hid hwz
        clear hws hwz
        obtain ⟨g2, cap2, rfl⟩ := Go.Joins.ownsRow_form ho2 (by omega)
        have HC2 := Lib.hid (fun (k : Nat) (hk : k < ws.length) => World.ownsRow.cells ho2 (g := g2) rfl k (.string (ws.getD k ⟨#[]⟩)) (by simp [List.getD, hk]))
        have hgl2 := (World.ownsRow.lt ho2 g2 rfl).2
        have q0 : w2.cell? ⟨g2, 0, none⟩ = some (.string (ws.getD 0 ⟨#[]⟩)) := by have := HC2.out 0 hm0; rwa [Addr.add_lit, Nat.zero_add] at this
        clear ho2
        have B2 := Lib.hid (below_step hB.out (hb2.mono (Nat.le_refl _)))
        have O2 := Lib.hid (own_below hO.out hb2 rfl)
        have z2 := hb2.size
        clear hb2 c1 hO hB
        obtain ⟨wd, hwd⟩ : ∃ wd, wd = ws.getD 0 ⟨#[]⟩ := ⟨_, rfl⟩
        rw [← hwd] at q0
        have HWD := Lib.hid hwd
        clear hwd
        go_wp2_with fail
        go_loopw [9] (fun sj wi => ∃ (j : Nat), 1 ≤ j ∧ j ≤ 6 ∧ sj = .int .i64 (j : Int) ∧ Hid (Below w2.heap.size w2 wi) ∧ w2.heap.size < wi.heap.size ∧ wi.cell? ⟨w2.heap.size, 0, none⟩ = some (.int .i64 (ruleTo wd (j - 1) : Nat)) ∧ wi.cell? ⟨w2.heap.size, 1, none⟩ = some (.int .i64 0) ∧ wi.cell? ⟨w2.heap.size, 2, none⟩ = some (.int .i64 0) ∧ wi.frozen? ⟨w2.heap.size, 0, none⟩ = false ∧ wi.frozen? ⟨w2.heap.size, 1, none⟩ = false ∧ wi.frozen? ⟨w2.heap.size, 2, none⟩ = false) (fun sj _ => 6 - (intOf sj).toNat)
        case atStart => exact ⟨1, by decide, by decide, rfl, (show Below _ _ _ from (by repeat (first | exact Below.refl _ _ | assumption | refine Below.drew ?_ | refine below_drewN ?_ _ | refine Below.alloc ?_ (by first | omega | (simp <;> omega)) _ | refine Below.setCell ?_ (by first | omega | (simp <;> omega)) _ | refine Below.trans ?_ (Below.mono (by assumption) (by first | omega | (simp <;> omega)))))), by simp, (by repeat (first | (refine Eq.trans (World.cell?_alloc_at _ _ _ _ ?hh) ?_; (case hh => (simp; done)); rfl) | refine cell_alloc_keep _ ?_)), (by repeat (first | (refine Eq.trans (World.cell?_alloc_at _ _ _ _ ?hh) ?_; (case hh => (simp; done)); rfl) | refine cell_alloc_keep _ ?_)), (by repeat (first | (refine Eq.trans (World.cell?_alloc_at _ _ _ _ ?hh) ?_; (case hh => (simp; done)); rfl) | refine cell_alloc_keep _ ?_)), (by repeat (first | (refine World.frozen?_alloc_at _ _ _ _ ?hh; case hh => (simp; done)) | (refine frozen_alloc_lt _ ?hh ?_; case hh => first | omega | (simp <;> omega)))), (by repeat (first | (refine World.frozen?_alloc_at _ _ _ _ ?hh; case hh => (simp; done)) | (refine frozen_alloc_lt _ ?hh ?_; case hh => first | omega | (simp <;> omega)))), (by repeat (first | (refine World.frozen?_alloc_at _ _ _ _ ?hh; case hh => (simp; done)) | (refine frozen_alloc_lt _ ?hh ?_; case hh => first | omega | (simp <;> omega))))⟩
        case round =>
          obtain ⟨j, hj1, hj6, rfl, hBi, hzi, x0, x1, x2, f0, f1, f2⟩ := hrel
          replace q0 := bel_pf hBi.out q0
          by_cases hlt2 : j ≤ 5
          · have j5 : (j : Int) ≤ 5 := by omega
            have bq := hBi.out
            go_upto_region 12 with fail
            refine AnyB.begin (S := (fun w' => w'.cell? ⟨g2, 0, none⟩ = some (.string wd))) [] (by kernel_rfl) ?_ (fun hHeld0 => ?_)
            · ((try dsimp only); (first | exact q0 | exact bel_pf hb3 q0))
            refine AnyB.takeQ (i := 0) (oi := _) (v := ?_) (by simp only [List.getElem?_toArray, List.getElem?_cons_zero, List.getElem?_cons_succ]; rfl) (by kernel_rfl) (by kernel_rfl) (by kernel_rfl) (by intro _ _ _ h; exact h) (Or.inl ⟨by rfl, ?_⟩) ?_
            rotate_left
            · (intro w hSw; (try dsimp only at hSw); go_simp; (try (with_reducible rfl)))
            try simp only [Act.put, List.setIfInBounds_toArray, List.set_cons_zero, List.set_cons_succ]
            refine AnyB.takeQ (i := 2) (oi := _) (v := ?_) (by simp only [List.getElem?_toArray, List.getElem?_cons_zero, List.getElem?_cons_succ]; rfl) (by kernel_rfl) (by kernel_rfl) (by kernel_rfl) (by intro _ _ _ h; exact h) (Or.inl ⟨by rfl, ?_⟩) ?_
            rotate_left
            · (intro w hSw; (try dsimp only at hSw); go_simp; (try (with_reducible rfl)))
            try simp only [Act.put, List.setIfInBounds_toArray, List.set_cons_zero, List.set_cons_succ]
            refine AnyB.takeQ (i := 3) (oi := _) (v := ?_) (by simp only [List.getElem?_toArray, List.getElem?_cons_zero, List.getElem?_cons_succ]; rfl) (by kernel_rfl) (by kernel_rfl) (by kernel_rfl) (by intro _ _ _ h; exact h) (Or.inl ⟨by rfl, ?_⟩) ?_
            rotate_left
            · (intro w hSw; (try dsimp only at hSw); go_simp; (try (with_reducible rfl)))
            try simp only [Act.put, List.setIfInBounds_toArray, List.set_cons_zero, List.set_cons_succ]
            refine AnyB.take (i := 4) (oi := _) (v := ?_) (by simp only [List.getElem?_toArray, List.getElem?_cons_zero, List.getElem?_cons_succ]; rfl) (by kernel_rfl) (by kernel_rfl) (by kernel_rfl) (by kernel_rfl) (by kernel_rfl) (by intro _ _ _ h; exact h) (Or.inl ⟨by rfl, ?_⟩) (by assumption) ?_
            rotate_left
            · (intro w hSw; (try dsimp only at hSw); go_simp; (try (with_reducible rfl)))
            try simp only [Act.put, List.setIfInBounds_toArray, List.set_cons_zero, List.set_cons_succ]
            refine AnyB.each (rs := [1]) (by kernel_rfl) (by simp) ?_
            refine EachB.cons rfl (fun K hK hB => ?_) ?_
            · skip
              (go_simp; go_at_call 14; refine (spec_l17Word_any j _ hj1 hlt2).mono ?_; rintro e w3 ⟨rfl, hb3⟩; dsimp only)
              refine hK.out _ _ ?_ (fun hHeld1 => ?_)
              · ((try dsimp only); (first | exact q0 | exact bel_pf hb3 q0))
              clear hB hK K hHeld0
              refine AnyB.takeQ (i := 5) (oi := _) (v := ?_) (by simp only [List.getElem?_toArray, List.getElem?_cons_zero, List.getElem?_cons_succ]; rfl) (by kernel_rfl) (by kernel_rfl) (by kernel_rfl) (by intro _ _ _ h; exact h) (Or.inl ⟨by rfl, ?_⟩) ?_
              rotate_left
              · (intro w hSw; (try dsimp only at hSw); go_simp; (try (with_reducible rfl)))
              try simp only [Act.put, List.setIfInBounds_toArray, List.set_cons_zero, List.set_cons_succ]
              refine AnyB.none (by kernel_rfl) ?_ _
              have B3 := Lib.hid (show Below w2.heap.size w2 w3 from Below.trans hBi.out ((show Below wr.heap.size wr w3 from below_step (show Below wr.heap.size wr wr.drew from (by repeat (first | exact Below.refl _ _ | assumption | refine Below.drew ?_ | refine below_drewN ?_ _ | refine Below.alloc ?_ (by first | omega | (simp <;> omega)) _ | refine Below.setCell ?_ (by first | omega | (simp <;> omega)) _ | refine Below.trans ?_ (Below.mono (by assumption) (by first | omega | (simp <;> omega)))))) hb3).mono (by omega)))
              replace x0 := bel_pf hb3 (show wr.drew.cell? _ = _ from x0); replace x1 := bel_pf hb3 (show wr.drew.cell? _ = _ from x1); replace x2 := bel_pf hb3 (show wr.drew.cell? _ = _ from x2)
              replace f0 := below_frz hb3 rfl (by simp; omega) (show wr.drew.frozen? _ = false from f0); replace f1 := below_frz hb3 rfl (by simp; omega) (show wr.drew.frozen? _ = false from f1); replace f2 := below_frz hb3 rfl (by simp; omega) (show wr.drew.frozen? _ = false from f2)
              have z3 := hb3.size
              simp at z3
              clear hb3 q0 bq hBi
              by_cases he : wordOf j = wd
              · have hee : ((wordOf j).toList == wd.toList) = true := by rw [he]; exact beq_self_eq_true _
                have HRR := Lib.hid (rule_yes hj1 he)
                rw [hee]
                clear he hee
                go_wp2_with fail
                go_roundw
                case rel => exact ⟨j + 1, by omega, by omega, by go_num, (show Below _ _ _ from Below.setCell B3.out (Nat.le_refl _) _), by simp; omega, by rw [HRR.out]; exact World.cell?_setCell_same _ _ _ x0, cell_set_oth x1 (by decide), cell_set_oth x2 (by decide), frz_set f0, frz_set f1, frz_set f2⟩
                case measure => simp [intOf]; omega
              · have hee : ((wordOf j).toList == wd.toList) = false := by
                  rw [Lib.toList_data, Lib.toList_data, beq_eq_false_iff_ne]
                  exact fun e => he (bytes_inj e)
                have HRR := Lib.hid (rule_no hj1 he)
                rw [hee]
                clear he hee
                go_wp2_with fail
                go_roundw
                case rel => exact ⟨j + 1, by omega, by omega, by go_num, B3, by omega, by rw [HRR.out]; exact x0, x1, x2, f0, f1, f2⟩
                case measure => simp [intOf]; omega
            exact EachB.nil
          · have j6 : j = 6 := by omega
            obtain ⟨aU, cU, rfl⟩ : ∃ a c, u = .slice a k c := own_fm1 O2.out
            subst j6
            have q1 : ∀ i, i < ws.length → wr.cell? ⟨g2, i, none⟩ = some (.string (ws.getD i ⟨#[]⟩)) := fun i hi => bel_pf hBi.out (by have := HC2.out i hi; rwa [Addr.add_lit, Nat.zero_add] at this)
            have Q1 := Lib.hid q1
            clear q1 q0
            replace x0 : wr.cell? ⟨w2.heap.size, 0, none⟩ = some (.int .i64 (ruleTo wd 5 : Nat)) := x0
            obtain ⟨R, hR⟩ : ∃ R : Nat, R = ruleTo wd 5 := ⟨_, rfl⟩
            rw [← hR] at x0
            have HRE : ∀ a c, fldE readG ws 1 = a → fldE readG ws 2 = c → xs.take (k + 1) = xs.take k ++ [⟨(R : Nat), a, c⟩] := fun a c h1 h2 => by
              rw [HN.out, ← h1, ← h2, hR, HWD.out]; rfl
            have HRE := Lib.hid HRE
            clear hR
            by_cases n1 : 1 < ws.length
            · have j2 : (1 : Int) < (ws.length : Int) := by omega
              have q1 := Q1.out 1 n1
              have zq1 := HWZ.out 1
              have HF1 := Lib.hid (show fldE readG ws 1 = readG (ws.getD 1 ⟨#[]⟩) from by unfold fldE; rw [if_pos n1])
              obtain ⟨b, hb⟩ : ∃ b, b = ws.getD 1 ⟨#[]⟩ := ⟨_, rfl⟩
              rw [← hb] at q1 zq1 HF1
              clear hb
              go_wp2_with fail
              refine (spec_l1Read_any b _ (by omega)).mono ?_; rintro e w5 ⟨rfl, rfl⟩
              obtain ⟨A, hA⟩ : ∃ A, A = readG b := ⟨_, rfl⟩
              rw [← hA] at HF1 ⊢
              clear hA
              by_cases n2 : 2 < ws.length
              · have j3 : (2 : Int) < (ws.length : Int) := by omega
                have q2 : (w5.setCell ⟨w2.heap.size, 1, none⟩ (.int .i64 A)).cell? ⟨g2, 2, none⟩ = some (.string (ws.getD 2 ⟨#[]⟩)) := (World.cell?_setCell_other _ _ _ _ (fun e => by injection e with e1 e2 e3; omega)).trans (Q1.out 2 n2)
                have zq2 := HWZ.out 2
                have HF2 := Lib.hid (show fldE readG ws 2 = readG (ws.getD 2 ⟨#[]⟩) from by unfold fldE; rw [if_pos n2])
                obtain ⟨d, hd⟩ : ∃ b, b = ws.getD 2 ⟨#[]⟩ := ⟨_, rfl⟩
                rw [← hd] at q2 zq2 HF2
                clear hd
                go_wp2_with fail
                refine (spec_l1Read_any d _ (by omega)).mono ?_; rintro e w6 ⟨rfl, hw6⟩
                rw [hw6]
                clear hw6
                obtain ⟨C, hC⟩ : ∃ C, C = readG d := ⟨_, rfl⟩
                rw [← hC] at HF2 ⊢
                clear hC
                have HT := Lib.hid (HRE.out A C HF1.out HF2.out)
                have y0 : ((w5.setCell ⟨w2.heap.size, 1, none⟩ (.int .i64 A)).setCell ⟨w2.heap.size, 2, none⟩ (.int .i64 C)).cell? ⟨w2.heap.size, 0, none⟩ = some (.int .i64 (R : Nat)) := cell_set_oth (cell_set_oth x0 (by decide)) (by decide)
                have y1 : ((w5.setCell ⟨w2.heap.size, 1, none⟩ (.int .i64 A)).setCell ⟨w2.heap.size, 2, none⟩ (.int .i64 C)).cell? ⟨w2.heap.size, 1, none⟩ = some (.int .i64 A) := cell_set_oth (World.cell?_setCell_same _ _ _ x1) (by decide)
                have y2 : ((w5.setCell ⟨w2.heap.size, 1, none⟩ (.int .i64 A)).setCell ⟨w2.heap.size, 2, none⟩ (.int .i64 C)).cell? ⟨w2.heap.size, 2, none⟩ = some (.int .i64 C) := World.cell?_setCell_same _ _ _ (cell_set_oth x2 (by decide))
                have BW : Below w2.heap.size w2 ((w5.setCell ⟨w2.heap.size, 1, none⟩ (.int .i64 A)).setCell ⟨w2.heap.size, 2, none⟩ (.int .i64 C)) := Below.setCell (Below.setCell hBi.out (Nat.le_refl _) _) (Nat.le_refl _) _
                have OW := Lib.hid (own_below O2.out BW rfl)
                have OX := Lib.hid (World.ownsRow.alloc OW.out (.cells #[.int .i64 (R : Nat), .int .i64 A, .int .i64 C] 36))
                have hbX := Lib.hid (Below.alloc (Below.trans B2.out (BW.mono (by omega))) (by have := BW.size; omega) (.cells #[.int .i64 (R : Nat), .int .i64 A, .int .i64 C] 36))
                have g3 : w1.heap.size ≤ (((w5.setCell ⟨w2.heap.size, 1, none⟩ (.int .i64 A)).setCell ⟨w2.heap.size, 2, none⟩ (.int .i64 C)).alloc (.cells #[.int .i64 (R : Nat), .int .i64 A, .int .i64 C] 36)).heap.size := hbX.out.size
                have zBW : w1.heap.size ≤ ((w5.setCell ⟨w2.heap.size, 1, none⟩ (.int .i64 A)).setCell ⟨w2.heap.size, 2, none⟩ (.int .i64 C)).heap.size := by have := BW.size; omega
                have g1 : k + 1 ≤ maxLen := by unfold maxLen; omega
                have gg2 : (k + 1) * 24 ≤ 140737488355328 := by omega
                have g4 : (Value.agg #[.int .i64 0, .int .i64 0, .int .i64 0]).cells.size = 3 := rfl
                have g5 : Reads (((w5.setCell ⟨w2.heap.size, 1, none⟩ (.int .i64 A)).setCell ⟨w2.heap.size, 2, none⟩ (.int .i64 C)).alloc (.cells #[.int .i64 (R : Nat), .int .i64 A, .int .i64 C] 36)) (w5.heap.size + 1) 3 (some ⟨w5.heap.size, 0, none⟩) 1 (E3.cs ⟨(R : Nat), A, C⟩) := by have h9 := reads_rw ((w5.setCell ⟨w2.heap.size, 1, none⟩ (.int .i64 A)).setCell ⟨w2.heap.size, 2, none⟩ (.int .i64 C)) (R : Nat) A C; rwa [show ((w5.setCell ⟨w2.heap.size, 1, none⟩ (.int .i64 A)).setCell ⟨w2.heap.size, 2, none⟩ (.int .i64 C)).heap.size = w5.heap.size from by first | rfl | simp] at h9
                have g6 := E3.one ⟨(R : Nat), A, C⟩
                clear Q1 HWD HC2 HRE
                go_wp2_with (at_builtin; go_loud (refine wpList_append_any _ rfl (.tmp 50) (.tmp 52) 22 rfl w1.heap.size 36 i0 (.agg #[.int .i64 0, .int .i64 0, .int .i64 0]) 3 24 Tryd.underlying22 hi hz0 hz1 hz2 g4 (by decide) (.slice aU k cU) k ((xs.take k).flatMap E3.cs) ?hs ?ho (w5.heap.size + 1) (some ⟨w5.heap.size, 0, none⟩) 1 1 (E3.cs ⟨(R : Nat), A, C⟩) ?hx ?hr ?h1 ?h63 ?hb ?hbs ?_; (case hs => rfl); (case h63 => exact g1); (case hb => exact gg2); (case hbs => exact g3); (case h1 => exact g6); (case hx => rfl); (case hr => exact g5); (case ho => with_reducible exact OX.out); intro v3 w4 hown3 hg3 hat3; have S4 := Lib.hid (show w4.ownsRow w1.heap.size 36 3 v3 (k + 1) ((xs.take (k + 1)).flatMap E3.cs) from (by rw [HT.out, List.flatMap_append]; simpa using hown3)); have B4 := Lib.hid (grown_below hbX.out OX.out hg3 (Nat.le_refl _) g3); have z4 := hg3.size; (simp at z4); clear hown3 hg3 hat3))
                go_roundw
                case rel => exact ⟨k + 1, v3, rfl, by omega, by go_num, S4, B4, by first | omega | (simp at zBW; omega)⟩
                case measure => simp [intOf]; omega
              · have j3 : ¬ (2 : Int) < (ws.length : Int) := by omega
                have HT := Lib.hid (HRE.out A 0 HF1.out (show fldE readG ws 2 = 0 from by unfold fldE; rw [if_neg n2]))
                have y0 : (w5.setCell ⟨w2.heap.size, 1, none⟩ (.int .i64 A)).cell? ⟨w2.heap.size, 0, none⟩ = some (.int .i64 (R : Nat)) := cell_set_oth x0 (by decide)
                have y1 : (w5.setCell ⟨w2.heap.size, 1, none⟩ (.int .i64 A)).cell? ⟨w2.heap.size, 1, none⟩ = some (.int .i64 A) := World.cell?_setCell_same _ _ _ x1
                have y2 : (w5.setCell ⟨w2.heap.size, 1, none⟩ (.int .i64 A)).cell? ⟨w2.heap.size, 2, none⟩ = some (.int .i64 0) := cell_set_oth x2 (by decide)
                have BW : Below w2.heap.size w2 (w5.setCell ⟨w2.heap.size, 1, none⟩ (.int .i64 A)) := Below.setCell hBi.out (Nat.le_refl _) _
                have OW := Lib.hid (own_below O2.out BW rfl)
                have OX := Lib.hid (World.ownsRow.alloc OW.out (.cells #[.int .i64 (R : Nat), .int .i64 A, .int .i64 0] 36))
                have hbX := Lib.hid (Below.alloc (Below.trans B2.out (BW.mono (by omega))) (by have := BW.size; omega) (.cells #[.int .i64 (R : Nat), .int .i64 A, .int .i64 0] 36))
                have g3 : w1.heap.size ≤ ((w5.setCell ⟨w2.heap.size, 1, none⟩ (.int .i64 A)).alloc (.cells #[.int .i64 (R : Nat), .int .i64 A, .int .i64 0] 36)).heap.size := hbX.out.size
                have zBW : w1.heap.size ≤ (w5.setCell ⟨w2.heap.size, 1, none⟩ (.int .i64 A)).heap.size := by have := BW.size; omega
                have g1 : k + 1 ≤ maxLen := by unfold maxLen; omega
                have gg2 : (k + 1) * 24 ≤ 140737488355328 := by omega
                have g4 : (Value.agg #[.int .i64 0, .int .i64 0, .int .i64 0]).cells.size = 3 := rfl
                have g5 : Reads ((w5.setCell ⟨w2.heap.size, 1, none⟩ (.int .i64 A)).alloc (.cells #[.int .i64 (R : Nat), .int .i64 A, .int .i64 0] 36)) (w5.heap.size + 1) 3 (some ⟨w5.heap.size, 0, none⟩) 1 (E3.cs ⟨(R : Nat), A, 0⟩) := by have h9 := reads_rw (w5.setCell ⟨w2.heap.size, 1, none⟩ (.int .i64 A)) (R : Nat) A 0; rwa [show (w5.setCell ⟨w2.heap.size, 1, none⟩ (.int .i64 A)).heap.size = w5.heap.size from by first | rfl | simp] at h9
                have g6 := E3.one ⟨(R : Nat), A, 0⟩
                clear Q1 HWD HC2 HRE
                go_wp2_with (at_builtin; go_loud (refine wpList_append_any _ rfl (.tmp 50) (.tmp 52) 22 rfl w1.heap.size 36 i0 (.agg #[.int .i64 0, .int .i64 0, .int .i64 0]) 3 24 Tryd.underlying22 hi hz0 hz1 hz2 g4 (by decide) (.slice aU k cU) k ((xs.take k).flatMap E3.cs) ?hs ?ho (w5.heap.size + 1) (some ⟨w5.heap.size, 0, none⟩) 1 1 (E3.cs ⟨(R : Nat), A, 0⟩) ?hx ?hr ?h1 ?h63 ?hb ?hbs ?_; (case hs => rfl); (case h63 => exact g1); (case hb => exact gg2); (case hbs => exact g3); (case h1 => exact g6); (case hx => rfl); (case hr => exact g5); (case ho => with_reducible exact OX.out); intro v3 w4 hown3 hg3 hat3; have S4 := Lib.hid (show w4.ownsRow w1.heap.size 36 3 v3 (k + 1) ((xs.take (k + 1)).flatMap E3.cs) from (by rw [HT.out, List.flatMap_append]; simpa using hown3)); have B4 := Lib.hid (grown_below hbX.out OX.out hg3 (Nat.le_refl _) g3); have z4 := hg3.size; (simp at z4); clear hown3 hg3 hat3))
                go_roundw
                case rel => exact ⟨k + 1, v3, rfl, by omega, by go_num, S4, B4, by first | omega | (simp at zBW; omega)⟩
                case measure => simp [intOf]; omega
            · have j2 : ¬ (1 : Int) < (ws.length : Int) := by omega
              have j3 : ¬ (2 : Int) < (ws.length : Int) := by omega
              have HT := Lib.hid (HRE.out 0 0 (show fldE readG ws 1 = 0 from by unfold fldE; rw [if_neg n1]) (show fldE readG ws 2 = 0 from by unfold fldE; rw [if_neg (by omega)]))
              have y0 := x0
              have y1 := x1
              have y2 := x2
              have BW : Below w2.heap.size w2 wr := hBi.out
              have OW := Lib.hid (own_below O2.out BW rfl)
              have OX := Lib.hid (World.ownsRow.alloc OW.out (.cells #[.int .i64 (R : Nat), .int .i64 0, .int .i64 0] 36))
              have hbX := Lib.hid (Below.alloc (Below.trans B2.out (BW.mono (by omega))) (by have := BW.size; omega) (.cells #[.int .i64 (R : Nat), .int .i64 0, .int .i64 0] 36))
              have g3 : w1.heap.size ≤ ((wr).alloc (.cells #[.int .i64 (R : Nat), .int .i64 0, .int .i64 0] 36)).heap.size := hbX.out.size
              have zBW : w1.heap.size ≤ (wr).heap.size := by have := BW.size; omega
              have g1 : k + 1 ≤ maxLen := by unfold maxLen; omega
              have gg2 : (k + 1) * 24 ≤ 140737488355328 := by omega
              have g4 : (Value.agg #[.int .i64 0, .int .i64 0, .int .i64 0]).cells.size = 3 := rfl
              have g5 : Reads ((wr).alloc (.cells #[.int .i64 (R : Nat), .int .i64 0, .int .i64 0] 36)) (wr.heap.size + 1) 3 (some ⟨wr.heap.size, 0, none⟩) 1 (E3.cs ⟨(R : Nat), 0, 0⟩) := by have h9 := reads_rw (wr) (R : Nat) 0 0; rwa [show (wr).heap.size = wr.heap.size from by first | rfl | simp] at h9
              have g6 := E3.one ⟨(R : Nat), 0, 0⟩
              clear Q1 HWD HC2 HRE
              go_wp2_with (at_builtin; go_loud (refine wpList_append_any _ rfl (.tmp 50) (.tmp 52) 22 rfl w1.heap.size 36 i0 (.agg #[.int .i64 0, .int .i64 0, .int .i64 0]) 3 24 Tryd.underlying22 hi hz0 hz1 hz2 g4 (by decide) (.slice aU k cU) k ((xs.take k).flatMap E3.cs) ?hs ?ho (wr.heap.size + 1) (some ⟨wr.heap.size, 0, none⟩) 1 1 (E3.cs ⟨(R : Nat), 0, 0⟩) ?hx ?hr ?h1 ?h63 ?hb ?hbs ?_; (case hs => rfl); (case h63 => exact g1); (case hb => exact gg2); (case hbs => exact g3); (case h1 => exact g6); (case hx => rfl); (case hr => exact g5); (case ho => with_reducible exact OX.out); intro v3 w4 hown3 hg3 hat3; have S4 := Lib.hid (show w4.ownsRow w1.heap.size 36 3 v3 (k + 1) ((xs.take (k + 1)).flatMap E3.cs) from (by rw [HT.out, List.flatMap_append]; simpa using hown3)); have B4 := Lib.hid (grown_below hbX.out OX.out hg3 (Nat.le_refl _) g3); have z4 := hg3.size; (simp at z4); clear hown3 hg3 hat3))
              go_roundw
              case rel => exact ⟨k + 1, v3, rfl, by omega, by go_num, S4, B4, by first | omega | (simp at zBW; omega)⟩
              case measure => simp [intOf]; omega
      · have ek : k = ps.length := by omega
        subst ek
        have i2 : ¬ (ps.length : Int) < (ps.length : Int) := by omega
        have hO2 := hO.out
        rw [List.take_of_length_le (by rw [HLN.out]; exact Nat.le_refl _)] at hO2
        have OE : OwnE wr w1.heap.size 36 u E3.cs 3 xs := by unfold OwnE; rw [HLN.out]; exact hO2
        clear hO2 hO
        obtain ⟨a3, c3, rfl⟩ := OE.forms
        have HO := Lib.hid OE
        have RR := Lib.hid OE.rd
        clear OE
        have hxl : xs.length ≤ 2097152 := by rw [HLN.out]; omega
        have HB := Lib.hid (below_step B1.out hB.out)
        have hzw := B1.out.size
        go_wp2_with fail
        refine (spec_l17Log_any _ xs _ RR.out hxl).mono ?_; rintro e w4 ⟨rfl, hb4⟩
        have B4 := Lib.hid (below_step HB.out hb4)
        have R4 := Lib.hid (Rd.below RR.out hb4 rfl)
        have O4 := Lib.hid (HO.out.below hb4 rfl)
        clear hb4
        cases hv : logB xs with
        | false =>
          have HG := Lib.hid (show goodL readG s = false from by unfold goodL; rw [← HX.out, hv]; rfl)
          have HRR := Lib.hid (show logR readG s = [] from by rw [HR.out, HG.out]; rfl)
          clear hv
          have bq := B4.out
          go_wp2_with fail
          go_ret2
          exact ⟨_, by (rw [HQ.out, HG.out]; try rfl), by (rw [HRR.out]; exact OwnE.nil _ _ _), (by repeat (first | exact Below.refl _ _ | assumption | refine Below.drew ?_ | refine below_drewN ?_ _ | refine Below.alloc ?_ (by first | omega | (simp <;> omega)) _ | refine Below.setCell ?_ (by first | omega | (simp <;> omega)) _ | refine Below.trans ?_ (Below.mono (by assumption) (by first | omega | (simp <;> omega)))))⟩
        | true =>
          obtain ⟨hok, h60⟩ := logB_parts hv
          have HV := Lib.hid hv
          clear hv
          go_wp2_with fail
          refine (spec_l17Text_any _ xs _ R4.out hok h60).mono ?_; rintro e w6 ⟨rfl, hb6⟩
          have bq := below_step B4.out hb6
          have O6 := Lib.hid (O4.out.below hb6 rfl)
          clear hb6 hok
          by_cases ht : logText xs = s
          · have HG := Lib.hid (show goodL readG s = true from by unfold goodL; rw [← HX.out, HV.out, decide_eq_true ht]; rfl)
            have HRR := Lib.hid (show logR readG s = xs from by rw [HR.out, HG.out, if_pos rfl, HX.out])
            have hne : ((logText xs).toList == s.toList) = true := by rw [ht]; exact beq_self_eq_true _
            obtain ⟨Tx, hTx⟩ : ∃ T, T = logText xs := ⟨_, rfl⟩
            rw [← hTx] at hne ⊢
            clear ht hTx
            go_wp2_with fail
            go_ret2
            exact ⟨_, by (rw [HQ.out, HG.out]; try rfl), by (rw [HRR.out]; exact O6.out.le hzw), (by repeat (first | exact Below.refl _ _ | assumption | refine Below.drew ?_ | refine below_drewN ?_ _ | refine Below.alloc ?_ (by first | omega | (simp <;> omega)) _ | refine Below.setCell ?_ (by first | omega | (simp <;> omega)) _ | refine Below.trans ?_ (Below.mono (by assumption) (by first | omega | (simp <;> omega)))))⟩
          · have HG := Lib.hid (show goodL readG s = false from by unfold goodL; rw [← HX.out, HV.out, decide_eq_false ht]; rfl)
            have HRR := Lib.hid (show logR readG s = [] from by rw [HR.out, HG.out]; rfl)
            have hne : ((logText xs).toList == s.toList) = false := beq_eq_false_iff_ne.2 (by
              rw [Lib.toList_data, Lib.toList_data]
              exact fun e => ht (bytes_inj e))
            obtain ⟨Tx, hTx⟩ : ∃ T, T = logText xs := ⟨_, rfl⟩
            rw [← hTx] at hne ⊢
            clear ht hTx
            go_wp2_with fail
            go_ret2
            exact ⟨_, by (rw [HQ.out, HG.out]; try rfl), by (rw [HRR.out]; exact OwnE.nil _ _ _), (by repeat (first | exact Below.refl _ _ | assumption | refine Below.drew ?_ | refine below_drewN ?_ _ | refine Below.alloc ?_ (by first | omega | (simp <;> omega)) _ | refine Below.setCell ?_ (by first | omega | (simp <;> omega)) _ | refine Below.trans ?_ (Below.mono (by assumption) (by first | omega | (simp <;> omega)))))⟩
end Go.Proofs.YtindldkileidmaaDoor
