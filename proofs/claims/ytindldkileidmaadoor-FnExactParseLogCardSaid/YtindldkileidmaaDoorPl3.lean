/- ParseLog: the program. -/
import Derived.Test.YtindldkileidmaaDoorPl2
import Derived.Test.YtindldkileidmaaDoorPl1
import Derived.Test.YtindldkileidmaaDoorBrk
import Derived.BigRegion
import Derived.BigQuiet
import Derived.Deep.DeepCutAuto
namespace Go.Proofs.YtindldkileidmaaDoor
set_option linter.unusedSimpArgs false
set_option linter.unusedVariables false
set_option linter.unnecessarySimpa false
set_option maxRecDepth 200000
open Go.ChangeShapes Go.WideShapes Go.ChangeAt Go.RowKit

theorem r_wrap {R : Nat} (h : R ≤ 5) : IntKind.i64.wrap ((R : Int) - 1 + 1) = (R : Int) := by rw [Int.sub_add_cancel]; exact IntWalk.i64_in _ (by omega)
theorem alloc_sz (w : World) (o : Obj) : (w.alloc o).heap.size = w.heap.size + 1 := by simp
theorem r_wrap2 {R : Nat} (h : R ≤ 5) : IntKind.i64.wrap (R : Int) = (R : Int) := IntWalk.i64_in _ (by omega)
set_option maxHeartbeats 8000000 in
theorem impl_ParseLog_any (s : ByteArray) (w : World) (hs : s.size ≤ 1048576) (hm : MaxL w) (hst : Strc w) (htb : Table w) :
    Calls Tryd.prog 6 #[.string s] w fun e w' => ∃ v, e = .returned (.tuple #[v, .bool (logQ atoG s)]) ∧ OwnE w' w.heap.size 36 v E3.cs 3 (logR atoG s) ∧ Below w.heap.size w w' := by
  by_cases hd : s = ⟨#[45]⟩
  · have HR := Lib.hid (show logR atoG s = [] from by unfold logR; rw [if_pos hd])
    have HQ := Lib.hid (show logQ atoG s = true from by unfold logQ; rw [decide_eq_true hd]; rfl)
    have hdd : (s.toList == [45]) = true := by rw [hd, Lib.toList_data]; rfl
    clear hd hm hst htb
    go_enter Tryd.func6, Tryd.ntmps6
    go_wp2_with fail
    go_ret2
    exact ⟨_, by (rw [HQ.out]; try rfl), by (rw [HR.out]; exact OwnE.nil _ _ _), (by repeat (first | exact Below.refl _ _ | assumption | refine Below.drew ?_ | refine below_drewN ?_ _ | refine Below.alloc ?_ (by first | omega | (simp <;> omega)) _ | refine Below.setCell ?_ (by first | omega | (simp <;> omega)) _ | refine Below.trans ?_ (Below.mono (by assumption) (by first | omega | (simp <;> omega)))))⟩
  · have HR := Lib.hid (show logR atoG s = if goodL atoG s = true then readL atoG s else [] from by unfold logR; rw [if_neg hd])
    have HQ := Lib.hid (show logQ atoG s = goodL atoG s from by unfold logQ; rw [decide_eq_false hd]; rfl)
    have hdd : (s.toList == [45]) = false := by
      rw [Lib.toList_data, beq_eq_false_iff_ne]
      exact fun e => hd (bytes_inj e)
    clear hd
    obtain ⟨i0, hi, hz0, hz1, hz2⟩ := info_parts rw_info
    have HM := Lib.hid hm
    have HST := Lib.hid hst
    have HTB := Lib.hid htb
    have M0 := Lib.hid (hm.call (show Below w.heap.size w (w.alloc (.cells #[] 36)) from (by repeat (first | exact Below.refl _ _ | assumption | refine Below.drew ?_ | refine below_drewN ?_ _ | refine Below.alloc ?_ (by first | omega | (simp <;> omega)) _ | refine Below.setCell ?_ (by first | omega | (simp <;> omega)) _ | refine Below.trans ?_ (Below.mono (by assumption) (by first | omega | (simp <;> omega)))))))
    clear hm hst htb
    go_enter Tryd.func6, Tryd.ntmps6
    go_wp2_with fail
    refine (impl_split 59 s _ hs M0.out).mono ?_; rintro e w1 ⟨ps, hps, rfl, rfl⟩
    obtain rfl := words_of hps
    clear hps
    have hn0 := wordsOf_pos 59 s
    have hn1 := wordsOf_count 59 s
    have hsz := fun t (h : t ∈ wordsOf 59 s) => wordsOf_size h
    have HTK := Lib.hid (fun k (h : k < (wordsOf 59 s).length) => readL_take atoG s h)
    have HLN := Lib.hid (readL_len atoG s)
    have hpc := words_cells (w.alloc (.cells #[] 36)) (wordsOf 59 s)
    obtain ⟨W1, hW1⟩ : ∃ W1, W1 = (w.alloc (.cells #[] 36)).alloc (.cells ((wordsOf 59 s).map Value.string).toArray 9) := ⟨_, rfl⟩
    have B1 := Lib.hid (show Below w.heap.size w W1 from by rw [hW1]; exact (by repeat (first | exact Below.refl _ _ | assumption | refine Below.drew ?_ | refine below_drewN ?_ _ | refine Below.alloc ?_ (by first | omega | (simp <;> omega)) _ | refine Below.setCell ?_ (by first | omega | (simp <;> omega)) _ | refine Below.trans ?_ (Below.mono (by assumption) (by first | omega | (simp <;> omega))))))
    have O1 := Lib.hid (show W1.ownsRow w.heap.size 36 3 (.slice (some ⟨w.heap.size, 0, none⟩) 0 0) 0 [] from by rw [hW1]; exact World.ownsRow.alloc (own_lit0 (f := E3.cs) (sz := 3) w w.heap.size 36 w.heap.size rfl (Nat.le_refl _)) _)
    have z1 : w.heap.size + 2 ≤ W1.heap.size := by rw [hW1]; simp
    rw [← hW1] at hpc ⊢
    clear hW1
    obtain ⟨ps, hp⟩ : ∃ ps, ps = wordsOf 59 s := ⟨_, rfl⟩
    rw [← hp] at hn0 hn1 hsz HTK HLN hpc ⊢
    clear hp
    obtain ⟨xs, hx⟩ : ∃ xs, xs = readL atoG s := ⟨_, rfl⟩
    rw [← hx] at HTK HLN
    have HX := Lib.hid hx
    clear hx
    have HC := Lib.hid (show ∀ k, k < ps.length → W1.cell? ⟨w.heap.size + 1, k, none⟩ = some (.string (ps.getD k ⟨#[]⟩)) from fun k hk => by have := hpc k hk; simpa using this)
    have HSZ := Lib.hid (fun (k : Nat) (hk : k < ps.length) => hsz (ps.getD k ⟨#[]⟩) (by simp [List.getD, hk]))
    clear hsz hpc
    go_wp2_with fail
    go_loopw [4, 17] (fun so si wr => ∃ (k : Nat) (u : Value), u = so ∧ k ≤ ps.length ∧ si = .int .i64 k ∧ Hid (wr.ownsRow w.heap.size 36 3 u k ((xs.take k).flatMap E3.cs)) ∧ Hid (Below w.heap.size w wr) ∧ w.heap.size + 2 ≤ wr.heap.size ∧ Hid (∀ k, k < ps.length → wr.cell? ⟨w.heap.size + 1, k, none⟩ = some (.string (ps.getD k ⟨#[]⟩))) ∧ Hid (u.ownBlock ≠ some (w.heap.size + 1))) (fun _ si _ => ps.length - (intOf si).toNat)
    case atStart => exact ⟨0, _, rfl, Nat.zero_le _, rfl, O1, B1, z1, HC, (show _ ≠ _ from by simp [Value.ownBlock])⟩
    case round =>
      clear O1 B1 HC
      obtain ⟨k, u, rfl, hk, rfl, hO, hB, hsz, hC, hNE⟩ := hrel
      by_cases hlt : k < ps.length
      · have HN := Lib.hid (HTK.out k hlt)
        have c1 := hC.out k hlt
        have ht := HSZ.out k hlt
        obtain ⟨t, htt⟩ : ∃ t, t = ps.getD k ⟨#[]⟩ := ⟨_, rfl⟩
        rw [← htt] at HN c1 ht
        clear htt
        have j1 : (k : Int) < (ps.length : Int) := by omega
        go_wp2_with fail
        refine (impl_split 32 t _ (by omega) (HM.out.call hB.out)).mono ?_; rintro e w2' ⟨ws, hws, rfl, rfl⟩
        rw [← words_of hws] at HN
        have hm0 : 0 < ws.length := by rw [words_of hws]; exact wordsOf_pos 32 t
        have hm1 : ws.length ≤ t.size + 1 := by rw [words_of hws]; exact wordsOf_count 32 t
        have hwz : ∀ i, (ws.getD i ⟨#[]⟩).size ≤ 1048576 := fun i => by
          by_cases h : i < ws.length
          · have h2 : ws.getD i ⟨#[]⟩ ∈ wordsOf 32 t := by rw [← words_of hws]; simp [List.getD, h]
            exact Nat.le_trans (wordsOf_size h2) (by omega)
          · rw [show ws.getD i ⟨#[]⟩ = ⟨#[]⟩ from by simp [List.getD, h]]; decide
        have HWZ := Lib.hid hwz
        clear hws hwz
        have hc2 := words_cells wr ws
        obtain ⟨w2, hw2⟩ : ∃ W2, W2 = wr.alloc (.cells (ws.map Value.string).toArray 9) := ⟨_, rfl⟩
        have hb2 : Below wr.heap.size wr w2 := by rw [hw2]; exact (by repeat (first | exact Below.refl _ _ | assumption | refine Below.drew ?_ | refine below_drewN ?_ _ | refine Below.alloc ?_ (by first | omega | (simp <;> omega)) _ | refine Below.setCell ?_ (by first | omega | (simp <;> omega)) _ | refine Below.trans ?_ (Below.mono (by assumption) (by first | omega | (simp <;> omega)))))
        have z2 : wr.heap.size + 1 ≤ w2.heap.size := by rw [hw2]; simp
        rw [← hw2] at hc2 ⊢
        clear hw2
        have HC2 := Lib.hid hc2
        have q0 := hc2 0 hm0
        have B2 := Lib.hid (show Below w.heap.size w w2 from Below.trans hB.out (hb2.mono (by omega)))
        have O2 := Lib.hid (own_below hO.out hb2 rfl)
        have C2 := Lib.hid (show ∀ j, j < ps.length → w2.cell? ⟨w.heap.size + 1, j, none⟩ = some (.string (ps.getD j ⟨#[]⟩)) from fun j hj => bel_pf hb2 (hC.out j hj))
        clear hb2 c1 hO hB hc2 hC
        obtain ⟨g2, hg2⟩ : ∃ g, g = wr.heap.size := ⟨_, rfl⟩
        rw [← hg2] at q0 HC2 z2 hsz ⊢
        clear hg2
        obtain ⟨wd, hwd⟩ : ∃ wd, wd = ws.getD 0 ⟨#[]⟩ := ⟨_, rfl⟩
        rw [← hwd] at q0
        have HIX := Lib.hid (fun w9 h9 => index_rule wd w9 h9)
        have hR5 := ruleTo_le wd 5
        obtain ⟨R, hR⟩ : ∃ R : Nat, R = ruleTo wd 5 := ⟨_, rfl⟩
        rw [← hR] at HIX hR5
        have HRE : ∀ a c, fldE atoG ws 1 = a → fldE atoG ws 2 = c → xs.take (k + 1) = xs.take k ++ [⟨(R : Nat), a, c⟩] := fun a c h1 h2 => by
          rw [HN.out, ← h1, ← h2, hR, hwd]; rfl
        have HRE := Lib.hid HRE
        clear hR hwd
        have hw1 := r_wrap hR5
        have hw2 := r_wrap2 hR5
        have T2 := Lib.hid (HTB.out.call B2.out)
        have S2 := Lib.hid (HST.out.call B2.out)
        go_upto_region 8 with fail
        refine AnyB.begin (S := (fun w' => w'.cell? ⟨g2, 0, none⟩ = some (.string wd))) [] (by kernel_rfl) ?_ (fun hHeld0 => ?_)
        · ((try dsimp only); (first | exact q0 | exact cell_alloc_keep _ q0))
        refine AnyB.takeQ (i := 0) (oi := _) (v := ?_) (by simp only [List.getElem?_toArray, List.getElem?_cons_zero, List.getElem?_cons_succ]; rfl) (by kernel_rfl) (by kernel_rfl) (by kernel_rfl) (by intro _ _ _ h; exact h) (Or.inl ⟨by rfl, ?_⟩) ?_
        rotate_left
        · (intro w hSw; (try dsimp only at hSw); go_simp; (try (with_reducible rfl)))
        try simp only [Act.put, List.setIfInBounds_toArray, List.set_cons_zero, List.set_cons_succ]
        refine AnyB.takeQ (i := 1) (oi := _) (v := ?_) (by simp only [List.getElem?_toArray, List.getElem?_cons_zero, List.getElem?_cons_succ]; rfl) (by kernel_rfl) (by kernel_rfl) (by kernel_rfl) (by intro _ _ _ h; exact h) (Or.inl ⟨by rfl, ?_⟩) ?_
        rotate_left
        · (intro w hSw; (try dsimp only at hSw); go_simp; (try (with_reducible rfl)))
        try simp only [Act.put, List.setIfInBounds_toArray, List.set_cons_zero, List.set_cons_succ]
        refine AnyB.takeQ (i := 2) (oi := _) (v := ?_) (by simp only [List.getElem?_toArray, List.getElem?_cons_zero, List.getElem?_cons_succ]; rfl) (by kernel_rfl) (by kernel_rfl) (by kernel_rfl) (by intro _ _ _ h; exact h) (Or.inl ⟨by rfl, ?_⟩) ?_
        rotate_left
        · (intro w hSw; (try dsimp only at hSw); go_simp; (try (with_reducible rfl)))
        try simp only [Act.put, List.setIfInBounds_toArray, List.set_cons_zero, List.set_cons_succ]
        refine AnyB.take (i := 3) (oi := _) (v := ?_) (by simp only [List.getElem?_toArray, List.getElem?_cons_zero, List.getElem?_cons_succ]; rfl) (by kernel_rfl) (by kernel_rfl) (by kernel_rfl) (by kernel_rfl) (by kernel_rfl) (by intro _ _ _ h; exact h) (Or.inl ⟨by rfl, ?_⟩) (by assumption) ?_
        rotate_left
        · (intro w hSw; (try dsimp only at hSw); go_simp; (try (with_reducible rfl)))
        try simp only [Act.put, List.setIfInBounds_toArray, List.set_cons_zero, List.set_cons_succ]
        refine AnyB.each (rs := [4, 7]) (by kernel_rfl) (by simp) ?_
        refine EachB.cons rfl (fun K hK hB => ?_) ?_
        · skip
          (go_simp; go_at_call 19; refine (HIX.out _ (by first | exact T2.out | exact T2.out.call (by repeat (first | exact Below.refl _ _ | assumption | refine Below.drew ?_ | refine below_drewN ?_ _ | refine Below.alloc ?_ (by first | omega | (simp <;> omega)) _ | refine Below.setCell ?_ (by first | omega | (simp <;> omega)) _ | refine Below.trans ?_ (Below.mono (by assumption) (by first | omega | (simp <;> omega))))))).mono ?_; rintro e w3 ⟨rfl, rfl⟩; dsimp only)
          refine hK.out _ _ ?_ (fun hHeld1 => ?_)
          · ((try dsimp only); (first | exact q0 | exact cell_alloc_keep _ q0))
          clear hB hK K hHeld0
          refine AnyB.takeQ (i := 5) (oi := _) (v := ?_) (by simp only [List.getElem?_toArray, List.getElem?_cons_zero, List.getElem?_cons_succ]; rfl) (by kernel_rfl) (by kernel_rfl) (by kernel_rfl) (by intro _ _ _ h; exact h) (Or.inl ⟨by rfl, ?_⟩) ?_
          rotate_left
          · (intro w hSw; (try dsimp only at hSw); go_simp; (try (with_reducible rfl)))
          try simp only [Act.put, List.setIfInBounds_toArray, List.set_cons_zero, List.set_cons_succ]
          refine AnyB.takeQ (i := 6) (oi := _) (v := ?_) (by simp only [List.getElem?_toArray, List.getElem?_cons_zero, List.getElem?_cons_succ]; rfl) (by kernel_rfl) (by kernel_rfl) (by kernel_rfl) (by intro _ _ _ h; exact h) (Or.inl ⟨by rfl, ?_⟩) ?_
          rotate_left
          · (intro w hSw; (try dsimp only at hSw); go_simp; (try (with_reducible rfl)))
          try simp only [Act.put, List.setIfInBounds_toArray, List.set_cons_zero, List.set_cons_succ]
          refine AnyB.each (rs := [7]) (by kernel_rfl) (by simp) ?_
          refine EachB.cons rfl (fun K hK hB => ?_) ?_
          · skip
            go_simp
            refine hK.out _ _ ?_ (fun hHeld2 => ?_)
            · ((try dsimp only); (first | exact q0 | exact cell_alloc_keep _ q0))
            clear hB hK K hHeld1
            refine AnyB.each (rs := [8]) (by kernel_rfl) (by simp) ?_
            refine EachB.cons rfl (fun K hK hB => ?_) ?_
            · skip
              go_simp
              refine hK.out _ _ ?_ (fun hHeld3 => ?_)
              · ((try dsimp only); (first | exact q0 | exact cell_alloc_keep _ q0))
              clear hB hK K hHeld2
              refine AnyB.none (by kernel_rfl) ?_ _
              have x0 : (w2.alloc (.cells #[.int .i64 (R : Nat), .int .i64 0, .int .i64 0] 36)).drew.cell? ⟨w2.heap.size, 0, none⟩ = some (.int .i64 (R : Nat)) := (by repeat (first | (refine Eq.trans (World.cell?_alloc_at _ _ _ _ ?hh) ?_; (case hh => (simp; done)); rfl) | refine cell_alloc_keep _ ?_ | refine cell_drew ?_ | refine below_cell (by assumption) rfl ?_))
              have x1 : (w2.alloc (.cells #[.int .i64 (R : Nat), .int .i64 0, .int .i64 0] 36)).drew.cell? ⟨w2.heap.size, 1, none⟩ = some (.int .i64 0) := (by repeat (first | (refine Eq.trans (World.cell?_alloc_at _ _ _ _ ?hh) ?_; (case hh => (simp; done)); rfl) | refine cell_alloc_keep _ ?_ | refine cell_drew ?_ | refine below_cell (by assumption) rfl ?_))
              have x2 : (w2.alloc (.cells #[.int .i64 (R : Nat), .int .i64 0, .int .i64 0] 36)).drew.cell? ⟨w2.heap.size, 2, none⟩ = some (.int .i64 0) := (by repeat (first | (refine Eq.trans (World.cell?_alloc_at _ _ _ _ ?hh) ?_; (case hh => (simp; done)); rfl) | refine cell_alloc_keep _ ?_ | refine cell_drew ?_ | refine below_cell (by assumption) rfl ?_))
              have f1 : (w2.alloc (.cells #[.int .i64 (R : Nat), .int .i64 0, .int .i64 0] 36)).drew.frozen? ⟨w2.heap.size, 1, none⟩ = false := (by repeat (first | (refine World.frozen?_alloc_at _ _ _ _ ?hh; (case hh => (simp; done))) | (refine frozen_alloc_lt _ ?hh ?_; (case hh => first | omega | (simp <;> omega))) | refine frz_drew ?_ | refine below_frz (by assumption) rfl (by first | omega | (simp <;> omega)) ?_))
              have f2 : (w2.alloc (.cells #[.int .i64 (R : Nat), .int .i64 0, .int .i64 0] 36)).drew.frozen? ⟨w2.heap.size, 2, none⟩ = false := (by repeat (first | (refine World.frozen?_alloc_at _ _ _ _ ?hh; (case hh => (simp; done))) | (refine frozen_alloc_lt _ ?hh ?_; (case hh => first | omega | (simp <;> omega))) | refine frz_drew ?_ | refine below_frz (by assumption) rfl (by first | omega | (simp <;> omega)) ?_))
              have b3 : Below w2.heap.size w2 (w2.alloc (.cells #[.int .i64 (R : Nat), .int .i64 0, .int .i64 0] 36)).drew := (by repeat (first | exact Below.refl _ _ | assumption | refine Below.drew ?_ | refine below_drewN ?_ _ | refine Below.alloc ?_ (by first | omega | (simp <;> omega)) _ | refine Below.setCell ?_ (by first | omega | (simp <;> omega)) _ | refine Below.trans ?_ (Below.mono (by assumption) (by first | omega | (simp <;> omega)))))
              have z3 : w2.heap.size + 1 ≤ (w2.alloc (.cells #[.int .i64 (R : Nat), .int .i64 0, .int .i64 0] 36)).drew.heap.size := by simp
              obtain ⟨wi, hwi⟩ : ∃ W3, W3 = (w2.alloc (.cells #[.int .i64 (R : Nat), .int .i64 0, .int .i64 0] 36)).drew := ⟨_, rfl⟩
              rw [← hwi] at x0 x1 x2 f1 f2 b3 z3 ⊢
              clear hwi
              obtain ⟨aU, cU, rfl⟩ : ∃ a c, u = .slice a k c := own_fm1 O2.out
              by_cases n1 : 1 < ws.length
              · have j2 : (1 : Int) < (ws.length : Int) := by omega
                have q1 := bel_pf b3 (HC2.out 1 n1)
                have zq1 := HWZ.out 1
                have HF1 := Lib.hid (show fldE atoG ws 1 = atoG (ws.getD 1 ⟨#[]⟩) from by unfold fldE; rw [if_pos n1])
                obtain ⟨b, hb⟩ : ∃ b, b = ws.getD 1 ⟨#[]⟩ := ⟨_, rfl⟩
                rw [← hb] at q1 zq1 HF1
                clear hb
                go_wp2_with fail
                refine (impl_parseInt_any b _ zq1 (S2.out.call b3)).mono ?_; rintro e w5 ⟨qq, rfl, hb5⟩
                obtain ⟨A, hA⟩ : ∃ A, A = atoG b := ⟨_, rfl⟩
                rw [← hA] at HF1 ⊢
                clear hA
                replace x0 := bel_pf hb5 x0; replace x1 := bel_pf hb5 x1; replace x2 := bel_pf hb5 x2
                replace f1 := below_frz hb5 rfl (by omega) f1; replace f2 := below_frz hb5 rfl (by omega) f2
                have z5 := hb5.size
                replace b3 := Below.trans b3 (hb5.mono (by omega))
                clear hb5 q1
                by_cases n2 : 2 < ws.length
                · have j3 : (2 : Int) < (ws.length : Int) := by omega
                  have b4 : Below w2.heap.size w2 (w5.setCell ⟨w2.heap.size, 1, none⟩ (.int .i64 A)) := Below.setCell b3 (Nat.le_refl _) _
                  have q2 := bel_pf b4 (HC2.out 2 n2)
                  have zq2 := HWZ.out 2
                  have HF2 := Lib.hid (show fldE atoG ws 2 = atoG (ws.getD 2 ⟨#[]⟩) from by unfold fldE; rw [if_pos n2])
                  obtain ⟨d, hd⟩ : ∃ b, b = ws.getD 2 ⟨#[]⟩ := ⟨_, rfl⟩
                  rw [← hd] at q2 zq2 HF2
                  clear hd
                  have x0' : (w5.setCell ⟨w2.heap.size, 1, none⟩ (.int .i64 A)).cell? ⟨w2.heap.size, 0, none⟩ = some (.int .i64 (R : Nat)) := cell_set_oth x0 (by decide)
                  have x1' : (w5.setCell ⟨w2.heap.size, 1, none⟩ (.int .i64 A)).cell? ⟨w2.heap.size, 1, none⟩ = some (.int .i64 A) := World.cell?_setCell_same _ _ _ x1
                  have x2' : (w5.setCell ⟨w2.heap.size, 1, none⟩ (.int .i64 A)).cell? ⟨w2.heap.size, 2, none⟩ = some (.int .i64 0) := cell_set_oth x2 (by decide)
                  have z5' : (w5.setCell ⟨w2.heap.size, 1, none⟩ (.int .i64 A)).heap.size = w5.heap.size := by simp
                  go_wp2_with fail
                  refine (impl_parseInt_any d _ zq2 (S2.out.call b4)).mono ?_; rintro e w6 ⟨qr, rfl, hb6⟩
                  obtain ⟨C, hC⟩ : ∃ C, C = atoG d := ⟨_, rfl⟩
                  rw [← hC] at HF2 ⊢
                  clear hC
                  replace x0 := bel_pf hb6 x0'; replace x1 := bel_pf hb6 x1'; replace x2 := bel_pf hb6 x2'
                  replace f2 := below_frz hb6 rfl (by omega) (frz_set (b := ⟨w2.heap.size, 1, none⟩) (v := .int .i64 A) f2)
                  have z6 := hb6.size
                  replace b3 := Below.trans b4 (hb6.mono (by omega))
                  clear hb6 q2 x0' x1' x2' b4 f1
                  have HT := Lib.hid (HRE.out A C HF1.out HF2.out)
                  have y0 : (w6.setCell ⟨w2.heap.size, 2, none⟩ (.int .i64 C)).cell? ⟨w2.heap.size, 0, none⟩ = some (.int .i64 (R : Nat)) := cell_set_oth x0 (by decide)
                  have y1 : (w6.setCell ⟨w2.heap.size, 2, none⟩ (.int .i64 C)).cell? ⟨w2.heap.size, 1, none⟩ = some (.int .i64 A) := cell_set_oth x1 (by decide)
                  have y2 : (w6.setCell ⟨w2.heap.size, 2, none⟩ (.int .i64 C)).cell? ⟨w2.heap.size, 2, none⟩ = some (.int .i64 C) := World.cell?_setCell_same _ _ _ x2
                  have BW : Below w2.heap.size w2 (w6.setCell ⟨w2.heap.size, 2, none⟩ (.int .i64 C)) := Below.setCell b3 (Nat.le_refl _) _
                  have OW := Lib.hid (own_below O2.out BW rfl)
                  have OX := Lib.hid (World.ownsRow.alloc OW.out (.cells #[.int .i64 (R : Nat), .int .i64 A, .int .i64 C] 36))
                  have zBW : w2.heap.size ≤ (w6.setCell ⟨w2.heap.size, 2, none⟩ (.int .i64 C)).heap.size := BW.size
                  have hbX := Lib.hid (Below.alloc (Below.trans B2.out (BW.mono (by omega))) (by omega) (.cells #[.int .i64 (R : Nat), .int .i64 A, .int .i64 C] 36))
                  have CX := Lib.hid (show ∀ j, j < ps.length → ((w6.setCell ⟨w2.heap.size, 2, none⟩ (.int .i64 C)).alloc (.cells #[.int .i64 (R : Nat), .int .i64 A, .int .i64 C] 36)).cell? ⟨w.heap.size + 1, j, none⟩ = some (.string (ps.getD j ⟨#[]⟩)) from fun j hj => cell_alloc_keep _ (bel_pf BW (C2.out j hj)))
                  have g3 : w.heap.size ≤ ((w6.setCell ⟨w2.heap.size, 2, none⟩ (.int .i64 C)).alloc (.cells #[.int .i64 (R : Nat), .int .i64 A, .int .i64 C] 36)).heap.size := hbX.out.size
                  have g1 : k + 1 ≤ maxLen := by unfold maxLen; omega
                  have gg2 : (k + 1) * 24 ≤ 140737488355328 := by omega
                  have g4 : (Value.agg #[.int .i64 0, .int .i64 0, .int .i64 0]).cells.size = 3 := rfl
                  have g5 : Reads ((w6.setCell ⟨w2.heap.size, 2, none⟩ (.int .i64 C)).alloc (.cells #[.int .i64 (R : Nat), .int .i64 A, .int .i64 C] 36)) (w6.heap.size + 1) 3 (some ⟨w6.heap.size, 0, none⟩) 1 (E3.cs ⟨(R : Nat), A, C⟩) := by have h9 := reads_rw (w6.setCell ⟨w2.heap.size, 2, none⟩ (.int .i64 C)) (R : Nat) A C; rwa [show (w6.setCell ⟨w2.heap.size, 2, none⟩ (.int .i64 C)).heap.size = w6.heap.size from by first | rfl | simp] at h9
                  have g6 := E3.one ⟨(R : Nat), A, C⟩
                  have gz : w.heap.size + 1 < ((w6.setCell ⟨w2.heap.size, 2, none⟩ (.int .i64 C)).alloc (.cells #[.int .i64 (R : Nat), .int .i64 A, .int .i64 C] 36)).heap.size := by have := (alloc_sz (w6.setCell ⟨w2.heap.size, 2, none⟩ (.int .i64 C)) (.cells #[.int .i64 (R : Nat), .int .i64 A, .int .i64 C] 36)); omega
                  clear HC2 HRE
                  go_wp2_with (at_builtin; go_loud (refine wpList_append_any _ rfl (.tmp 52) (.tmp 54) 22 rfl w.heap.size 36 i0 (.agg #[.int .i64 0, .int .i64 0, .int .i64 0]) 3 24 Tryd.underlying22 hi hz0 hz1 hz2 g4 (by decide) (.slice aU k cU) k ((xs.take k).flatMap E3.cs) ?hs ?ho (w6.heap.size + 1) (some ⟨w6.heap.size, 0, none⟩) 1 1 (E3.cs ⟨(R : Nat), A, C⟩) ?hx ?hr ?h1 ?h63 ?hb ?hbs ?_; (case hs => rfl); (case h63 => exact g1); (case hb => exact gg2); (case hbs => exact g3); (case h1 => exact g6); (case hx => rfl); (case hr => exact g5); (case ho => with_reducible exact OX.out); intro v3 w4 hown3 hg3 hat3; have S4 := Lib.hid (show w4.ownsRow w.heap.size 36 3 v3 (k + 1) ((xs.take (k + 1)).flatMap E3.cs) from (by rw [HT.out, List.flatMap_append]; simpa using hown3)); have B4 := Lib.hid (grown_below hbX.out OX.out hg3 (Nat.le_refl _) g3); have C4 := Lib.hid (show ∀ j, j < ps.length → w4.cell? ⟨w.heap.size + 1, j, none⟩ = some (.string (ps.getD j ⟨#[]⟩)) from fun j hj => cell_other hg3 hNE.out (CX.out j hj)); have N4 := Lib.hid (show v3.ownBlock ≠ some (w.heap.size + 1) from blk_app hat3 gz hNE.out); have z4 := Nat.le_trans (Nat.succ_le_of_lt gz) hg3.size; clear hown3 hg3 hat3))
                  go_roundw
                  case rel => exact ⟨k + 1, v3, rfl, by omega, by go_num, S4, B4, z4, C4, N4⟩
                  case measure => simp [intOf]; omega
                · have j3 : ¬ (2 : Int) < (ws.length : Int) := by omega
                  have HT := Lib.hid (HRE.out A 0 HF1.out (show fldE atoG ws 2 = 0 from by unfold fldE; rw [if_neg n2]))
                  have y0 : (w5.setCell ⟨w2.heap.size, 1, none⟩ (.int .i64 A)).cell? ⟨w2.heap.size, 0, none⟩ = some (.int .i64 (R : Nat)) := cell_set_oth x0 (by decide)
                  have y1 : (w5.setCell ⟨w2.heap.size, 1, none⟩ (.int .i64 A)).cell? ⟨w2.heap.size, 1, none⟩ = some (.int .i64 A) := World.cell?_setCell_same _ _ _ x1
                  have y2 : (w5.setCell ⟨w2.heap.size, 1, none⟩ (.int .i64 A)).cell? ⟨w2.heap.size, 2, none⟩ = some (.int .i64 0) := cell_set_oth x2 (by decide)
                  have BW : Below w2.heap.size w2 (w5.setCell ⟨w2.heap.size, 1, none⟩ (.int .i64 A)) := Below.setCell b3 (Nat.le_refl _) _
                  have OW := Lib.hid (own_below O2.out BW rfl)
                  have OX := Lib.hid (World.ownsRow.alloc OW.out (.cells #[.int .i64 (R : Nat), .int .i64 A, .int .i64 0] 36))
                  have zBW : w2.heap.size ≤ (w5.setCell ⟨w2.heap.size, 1, none⟩ (.int .i64 A)).heap.size := BW.size
                  have hbX := Lib.hid (Below.alloc (Below.trans B2.out (BW.mono (by omega))) (by omega) (.cells #[.int .i64 (R : Nat), .int .i64 A, .int .i64 0] 36))
                  have CX := Lib.hid (show ∀ j, j < ps.length → ((w5.setCell ⟨w2.heap.size, 1, none⟩ (.int .i64 A)).alloc (.cells #[.int .i64 (R : Nat), .int .i64 A, .int .i64 0] 36)).cell? ⟨w.heap.size + 1, j, none⟩ = some (.string (ps.getD j ⟨#[]⟩)) from fun j hj => cell_alloc_keep _ (bel_pf BW (C2.out j hj)))
                  have g3 : w.heap.size ≤ ((w5.setCell ⟨w2.heap.size, 1, none⟩ (.int .i64 A)).alloc (.cells #[.int .i64 (R : Nat), .int .i64 A, .int .i64 0] 36)).heap.size := hbX.out.size
                  have g1 : k + 1 ≤ maxLen := by unfold maxLen; omega
                  have gg2 : (k + 1) * 24 ≤ 140737488355328 := by omega
                  have g4 : (Value.agg #[.int .i64 0, .int .i64 0, .int .i64 0]).cells.size = 3 := rfl
                  have g5 : Reads ((w5.setCell ⟨w2.heap.size, 1, none⟩ (.int .i64 A)).alloc (.cells #[.int .i64 (R : Nat), .int .i64 A, .int .i64 0] 36)) (w5.heap.size + 1) 3 (some ⟨w5.heap.size, 0, none⟩) 1 (E3.cs ⟨(R : Nat), A, 0⟩) := by have h9 := reads_rw (w5.setCell ⟨w2.heap.size, 1, none⟩ (.int .i64 A)) (R : Nat) A 0; rwa [show (w5.setCell ⟨w2.heap.size, 1, none⟩ (.int .i64 A)).heap.size = w5.heap.size from by first | rfl | simp] at h9
                  have g6 := E3.one ⟨(R : Nat), A, 0⟩
                  have gz : w.heap.size + 1 < ((w5.setCell ⟨w2.heap.size, 1, none⟩ (.int .i64 A)).alloc (.cells #[.int .i64 (R : Nat), .int .i64 A, .int .i64 0] 36)).heap.size := by have := (alloc_sz (w5.setCell ⟨w2.heap.size, 1, none⟩ (.int .i64 A)) (.cells #[.int .i64 (R : Nat), .int .i64 A, .int .i64 0] 36)); omega
                  clear HC2 HRE
                  go_wp2_with (at_builtin; go_loud (refine wpList_append_any _ rfl (.tmp 52) (.tmp 54) 22 rfl w.heap.size 36 i0 (.agg #[.int .i64 0, .int .i64 0, .int .i64 0]) 3 24 Tryd.underlying22 hi hz0 hz1 hz2 g4 (by decide) (.slice aU k cU) k ((xs.take k).flatMap E3.cs) ?hs ?ho (w5.heap.size + 1) (some ⟨w5.heap.size, 0, none⟩) 1 1 (E3.cs ⟨(R : Nat), A, 0⟩) ?hx ?hr ?h1 ?h63 ?hb ?hbs ?_; (case hs => rfl); (case h63 => exact g1); (case hb => exact gg2); (case hbs => exact g3); (case h1 => exact g6); (case hx => rfl); (case hr => exact g5); (case ho => with_reducible exact OX.out); intro v3 w4 hown3 hg3 hat3; have S4 := Lib.hid (show w4.ownsRow w.heap.size 36 3 v3 (k + 1) ((xs.take (k + 1)).flatMap E3.cs) from (by rw [HT.out, List.flatMap_append]; simpa using hown3)); have B4 := Lib.hid (grown_below hbX.out OX.out hg3 (Nat.le_refl _) g3); have C4 := Lib.hid (show ∀ j, j < ps.length → w4.cell? ⟨w.heap.size + 1, j, none⟩ = some (.string (ps.getD j ⟨#[]⟩)) from fun j hj => cell_other hg3 hNE.out (CX.out j hj)); have N4 := Lib.hid (show v3.ownBlock ≠ some (w.heap.size + 1) from blk_app hat3 gz hNE.out); have z4 := Nat.le_trans (Nat.succ_le_of_lt gz) hg3.size; clear hown3 hg3 hat3))
                  go_roundw
                  case rel => exact ⟨k + 1, v3, rfl, by omega, by go_num, S4, B4, z4, C4, N4⟩
                  case measure => simp [intOf]; omega
              · have j2 : ¬ (1 : Int) < (ws.length : Int) := by omega
                have j3 : ¬ (2 : Int) < (ws.length : Int) := by omega
                have HT := Lib.hid (HRE.out 0 0 (show fldE atoG ws 1 = 0 from by unfold fldE; rw [if_neg n1]) (show fldE atoG ws 2 = 0 from by unfold fldE; rw [if_neg (by omega)]))
                have y0 := x0
                have y1 := x1
                have y2 := x2
                have BW : Below w2.heap.size w2 wi := b3
                have OW := Lib.hid (own_below O2.out BW rfl)
                have OX := Lib.hid (World.ownsRow.alloc OW.out (.cells #[.int .i64 (R : Nat), .int .i64 0, .int .i64 0] 36))
                have zBW : w2.heap.size ≤ (wi).heap.size := BW.size
                have hbX := Lib.hid (Below.alloc (Below.trans B2.out (BW.mono (by omega))) (by omega) (.cells #[.int .i64 (R : Nat), .int .i64 0, .int .i64 0] 36))
                have CX := Lib.hid (show ∀ j, j < ps.length → ((wi).alloc (.cells #[.int .i64 (R : Nat), .int .i64 0, .int .i64 0] 36)).cell? ⟨w.heap.size + 1, j, none⟩ = some (.string (ps.getD j ⟨#[]⟩)) from fun j hj => cell_alloc_keep _ (bel_pf BW (C2.out j hj)))
                have g3 : w.heap.size ≤ ((wi).alloc (.cells #[.int .i64 (R : Nat), .int .i64 0, .int .i64 0] 36)).heap.size := hbX.out.size
                have g1 : k + 1 ≤ maxLen := by unfold maxLen; omega
                have gg2 : (k + 1) * 24 ≤ 140737488355328 := by omega
                have g4 : (Value.agg #[.int .i64 0, .int .i64 0, .int .i64 0]).cells.size = 3 := rfl
                have g5 : Reads ((wi).alloc (.cells #[.int .i64 (R : Nat), .int .i64 0, .int .i64 0] 36)) (wi.heap.size + 1) 3 (some ⟨wi.heap.size, 0, none⟩) 1 (E3.cs ⟨(R : Nat), 0, 0⟩) := by have h9 := reads_rw (wi) (R : Nat) 0 0; rwa [show (wi).heap.size = wi.heap.size from by first | rfl | simp] at h9
                have g6 := E3.one ⟨(R : Nat), 0, 0⟩
                have gz : w.heap.size + 1 < ((wi).alloc (.cells #[.int .i64 (R : Nat), .int .i64 0, .int .i64 0] 36)).heap.size := by have := (alloc_sz (wi) (.cells #[.int .i64 (R : Nat), .int .i64 0, .int .i64 0] 36)); omega
                clear HC2 HRE
                go_wp2_with (at_builtin; go_loud (refine wpList_append_any _ rfl (.tmp 52) (.tmp 54) 22 rfl w.heap.size 36 i0 (.agg #[.int .i64 0, .int .i64 0, .int .i64 0]) 3 24 Tryd.underlying22 hi hz0 hz1 hz2 g4 (by decide) (.slice aU k cU) k ((xs.take k).flatMap E3.cs) ?hs ?ho (wi.heap.size + 1) (some ⟨wi.heap.size, 0, none⟩) 1 1 (E3.cs ⟨(R : Nat), 0, 0⟩) ?hx ?hr ?h1 ?h63 ?hb ?hbs ?_; (case hs => rfl); (case h63 => exact g1); (case hb => exact gg2); (case hbs => exact g3); (case h1 => exact g6); (case hx => rfl); (case hr => exact g5); (case ho => with_reducible exact OX.out); intro v3 w4 hown3 hg3 hat3; have S4 := Lib.hid (show w4.ownsRow w.heap.size 36 3 v3 (k + 1) ((xs.take (k + 1)).flatMap E3.cs) from (by rw [HT.out, List.flatMap_append]; simpa using hown3)); have B4 := Lib.hid (grown_below hbX.out OX.out hg3 (Nat.le_refl _) g3); have C4 := Lib.hid (show ∀ j, j < ps.length → w4.cell? ⟨w.heap.size + 1, j, none⟩ = some (.string (ps.getD j ⟨#[]⟩)) from fun j hj => cell_other hg3 hNE.out (CX.out j hj)); have N4 := Lib.hid (show v3.ownBlock ≠ some (w.heap.size + 1) from blk_app hat3 gz hNE.out); have z4 := Nat.le_trans (Nat.succ_le_of_lt gz) hg3.size; clear hown3 hg3 hat3))
                go_roundw
                case rel => exact ⟨k + 1, v3, rfl, by omega, by go_num, S4, B4, z4, C4, N4⟩
                case measure => simp [intOf]; omega
            exact EachB.nil
          exact EachB.nil
        refine EachB.cons rfl (fun K hK hB => ?_) ?_
        · skip
          go_simp
          refine hK.out _ _ ?_ (fun hHeld4 => ?_)
          · ((try dsimp only); (first | exact q0 | exact cell_alloc_keep _ q0))
          clear hB hK K hHeld0
          refine AnyB.each (rs := [4]) (by kernel_rfl) (by simp) ?_
          refine EachB.cons rfl (fun K hK hB => ?_) ?_
          · skip
            (go_simp; go_at_call 19; refine (HIX.out _ (by first | exact T2.out | exact T2.out.call (by repeat (first | exact Below.refl _ _ | assumption | refine Below.drew ?_ | refine below_drewN ?_ _ | refine Below.alloc ?_ (by first | omega | (simp <;> omega)) _ | refine Below.setCell ?_ (by first | omega | (simp <;> omega)) _ | refine Below.trans ?_ (Below.mono (by assumption) (by first | omega | (simp <;> omega))))))).mono ?_; rintro e w3 ⟨rfl, rfl⟩; dsimp only)
            refine hK.out _ _ ?_ (fun hHeld5 => ?_)
            · ((try dsimp only); (first | exact q0 | exact cell_alloc_keep _ q0))
            clear hB hK K hHeld4
            refine AnyB.takeQ (i := 5) (oi := _) (v := ?_) (by simp only [List.getElem?_toArray, List.getElem?_cons_zero, List.getElem?_cons_succ]; rfl) (by kernel_rfl) (by kernel_rfl) (by kernel_rfl) (by intro _ _ _ h; exact h) (Or.inl ⟨by rfl, ?_⟩) ?_
            rotate_left
            · (intro w hSw; (try dsimp only at hSw); go_simp; (try (with_reducible rfl)))
            try simp only [Act.put, List.setIfInBounds_toArray, List.set_cons_zero, List.set_cons_succ]
            refine AnyB.takeQ (i := 6) (oi := _) (v := ?_) (by simp only [List.getElem?_toArray, List.getElem?_cons_zero, List.getElem?_cons_succ]; rfl) (by kernel_rfl) (by kernel_rfl) (by kernel_rfl) (by intro _ _ _ h; exact h) (Or.inl ⟨by rfl, ?_⟩) ?_
            rotate_left
            · (intro w hSw; (try dsimp only at hSw); go_simp; (try (with_reducible rfl)))
            try simp only [Act.put, List.setIfInBounds_toArray, List.set_cons_zero, List.set_cons_succ]
            refine AnyB.each (rs := [8]) (by kernel_rfl) (by simp) ?_
            refine EachB.cons rfl (fun K hK hB => ?_) ?_
            · skip
              go_simp
              refine hK.out _ _ ?_ (fun hHeld6 => ?_)
              · ((try dsimp only); (first | exact q0 | exact cell_alloc_keep _ q0))
              clear hB hK K hHeld5
              refine AnyB.none (by kernel_rfl) ?_ _
              have x0 : (w2.alloc (.cells #[.int .i64 (R : Nat), .int .i64 0, .int .i64 0] 36)).drew.cell? ⟨w2.heap.size, 0, none⟩ = some (.int .i64 (R : Nat)) := (by repeat (first | (refine Eq.trans (World.cell?_alloc_at _ _ _ _ ?hh) ?_; (case hh => (simp; done)); rfl) | refine cell_alloc_keep _ ?_ | refine cell_drew ?_ | refine below_cell (by assumption) rfl ?_))
              have x1 : (w2.alloc (.cells #[.int .i64 (R : Nat), .int .i64 0, .int .i64 0] 36)).drew.cell? ⟨w2.heap.size, 1, none⟩ = some (.int .i64 0) := (by repeat (first | (refine Eq.trans (World.cell?_alloc_at _ _ _ _ ?hh) ?_; (case hh => (simp; done)); rfl) | refine cell_alloc_keep _ ?_ | refine cell_drew ?_ | refine below_cell (by assumption) rfl ?_))
              have x2 : (w2.alloc (.cells #[.int .i64 (R : Nat), .int .i64 0, .int .i64 0] 36)).drew.cell? ⟨w2.heap.size, 2, none⟩ = some (.int .i64 0) := (by repeat (first | (refine Eq.trans (World.cell?_alloc_at _ _ _ _ ?hh) ?_; (case hh => (simp; done)); rfl) | refine cell_alloc_keep _ ?_ | refine cell_drew ?_ | refine below_cell (by assumption) rfl ?_))
              have f1 : (w2.alloc (.cells #[.int .i64 (R : Nat), .int .i64 0, .int .i64 0] 36)).drew.frozen? ⟨w2.heap.size, 1, none⟩ = false := (by repeat (first | (refine World.frozen?_alloc_at _ _ _ _ ?hh; (case hh => (simp; done))) | (refine frozen_alloc_lt _ ?hh ?_; (case hh => first | omega | (simp <;> omega))) | refine frz_drew ?_ | refine below_frz (by assumption) rfl (by first | omega | (simp <;> omega)) ?_))
              have f2 : (w2.alloc (.cells #[.int .i64 (R : Nat), .int .i64 0, .int .i64 0] 36)).drew.frozen? ⟨w2.heap.size, 2, none⟩ = false := (by repeat (first | (refine World.frozen?_alloc_at _ _ _ _ ?hh; (case hh => (simp; done))) | (refine frozen_alloc_lt _ ?hh ?_; (case hh => first | omega | (simp <;> omega))) | refine frz_drew ?_ | refine below_frz (by assumption) rfl (by first | omega | (simp <;> omega)) ?_))
              have b3 : Below w2.heap.size w2 (w2.alloc (.cells #[.int .i64 (R : Nat), .int .i64 0, .int .i64 0] 36)).drew := (by repeat (first | exact Below.refl _ _ | assumption | refine Below.drew ?_ | refine below_drewN ?_ _ | refine Below.alloc ?_ (by first | omega | (simp <;> omega)) _ | refine Below.setCell ?_ (by first | omega | (simp <;> omega)) _ | refine Below.trans ?_ (Below.mono (by assumption) (by first | omega | (simp <;> omega)))))
              have z3 : w2.heap.size + 1 ≤ (w2.alloc (.cells #[.int .i64 (R : Nat), .int .i64 0, .int .i64 0] 36)).drew.heap.size := by simp
              obtain ⟨wi, hwi⟩ : ∃ W3, W3 = (w2.alloc (.cells #[.int .i64 (R : Nat), .int .i64 0, .int .i64 0] 36)).drew := ⟨_, rfl⟩
              rw [← hwi] at x0 x1 x2 f1 f2 b3 z3 ⊢
              clear hwi
              obtain ⟨aU, cU, rfl⟩ : ∃ a c, u = .slice a k c := own_fm1 O2.out
              by_cases n1 : 1 < ws.length
              · have j2 : (1 : Int) < (ws.length : Int) := by omega
                have q1 := bel_pf b3 (HC2.out 1 n1)
                have zq1 := HWZ.out 1
                have HF1 := Lib.hid (show fldE atoG ws 1 = atoG (ws.getD 1 ⟨#[]⟩) from by unfold fldE; rw [if_pos n1])
                obtain ⟨b, hb⟩ : ∃ b, b = ws.getD 1 ⟨#[]⟩ := ⟨_, rfl⟩
                rw [← hb] at q1 zq1 HF1
                clear hb
                go_wp2_with fail
                refine (impl_parseInt_any b _ zq1 (S2.out.call b3)).mono ?_; rintro e w5 ⟨qq, rfl, hb5⟩
                obtain ⟨A, hA⟩ : ∃ A, A = atoG b := ⟨_, rfl⟩
                rw [← hA] at HF1 ⊢
                clear hA
                replace x0 := bel_pf hb5 x0; replace x1 := bel_pf hb5 x1; replace x2 := bel_pf hb5 x2
                replace f1 := below_frz hb5 rfl (by omega) f1; replace f2 := below_frz hb5 rfl (by omega) f2
                have z5 := hb5.size
                replace b3 := Below.trans b3 (hb5.mono (by omega))
                clear hb5 q1
                by_cases n2 : 2 < ws.length
                · have j3 : (2 : Int) < (ws.length : Int) := by omega
                  have b4 : Below w2.heap.size w2 (w5.setCell ⟨w2.heap.size, 1, none⟩ (.int .i64 A)) := Below.setCell b3 (Nat.le_refl _) _
                  have q2 := bel_pf b4 (HC2.out 2 n2)
                  have zq2 := HWZ.out 2
                  have HF2 := Lib.hid (show fldE atoG ws 2 = atoG (ws.getD 2 ⟨#[]⟩) from by unfold fldE; rw [if_pos n2])
                  obtain ⟨d, hd⟩ : ∃ b, b = ws.getD 2 ⟨#[]⟩ := ⟨_, rfl⟩
                  rw [← hd] at q2 zq2 HF2
                  clear hd
                  have x0' : (w5.setCell ⟨w2.heap.size, 1, none⟩ (.int .i64 A)).cell? ⟨w2.heap.size, 0, none⟩ = some (.int .i64 (R : Nat)) := cell_set_oth x0 (by decide)
                  have x1' : (w5.setCell ⟨w2.heap.size, 1, none⟩ (.int .i64 A)).cell? ⟨w2.heap.size, 1, none⟩ = some (.int .i64 A) := World.cell?_setCell_same _ _ _ x1
                  have x2' : (w5.setCell ⟨w2.heap.size, 1, none⟩ (.int .i64 A)).cell? ⟨w2.heap.size, 2, none⟩ = some (.int .i64 0) := cell_set_oth x2 (by decide)
                  have z5' : (w5.setCell ⟨w2.heap.size, 1, none⟩ (.int .i64 A)).heap.size = w5.heap.size := by simp
                  go_wp2_with fail
                  refine (impl_parseInt_any d _ zq2 (S2.out.call b4)).mono ?_; rintro e w6 ⟨qr, rfl, hb6⟩
                  obtain ⟨C, hC⟩ : ∃ C, C = atoG d := ⟨_, rfl⟩
                  rw [← hC] at HF2 ⊢
                  clear hC
                  replace x0 := bel_pf hb6 x0'; replace x1 := bel_pf hb6 x1'; replace x2 := bel_pf hb6 x2'
                  replace f2 := below_frz hb6 rfl (by omega) (frz_set (b := ⟨w2.heap.size, 1, none⟩) (v := .int .i64 A) f2)
                  have z6 := hb6.size
                  replace b3 := Below.trans b4 (hb6.mono (by omega))
                  clear hb6 q2 x0' x1' x2' b4 f1
                  have HT := Lib.hid (HRE.out A C HF1.out HF2.out)
                  have y0 : (w6.setCell ⟨w2.heap.size, 2, none⟩ (.int .i64 C)).cell? ⟨w2.heap.size, 0, none⟩ = some (.int .i64 (R : Nat)) := cell_set_oth x0 (by decide)
                  have y1 : (w6.setCell ⟨w2.heap.size, 2, none⟩ (.int .i64 C)).cell? ⟨w2.heap.size, 1, none⟩ = some (.int .i64 A) := cell_set_oth x1 (by decide)
                  have y2 : (w6.setCell ⟨w2.heap.size, 2, none⟩ (.int .i64 C)).cell? ⟨w2.heap.size, 2, none⟩ = some (.int .i64 C) := World.cell?_setCell_same _ _ _ x2
                  have BW : Below w2.heap.size w2 (w6.setCell ⟨w2.heap.size, 2, none⟩ (.int .i64 C)) := Below.setCell b3 (Nat.le_refl _) _
                  have OW := Lib.hid (own_below O2.out BW rfl)
                  have OX := Lib.hid (World.ownsRow.alloc OW.out (.cells #[.int .i64 (R : Nat), .int .i64 A, .int .i64 C] 36))
                  have zBW : w2.heap.size ≤ (w6.setCell ⟨w2.heap.size, 2, none⟩ (.int .i64 C)).heap.size := BW.size
                  have hbX := Lib.hid (Below.alloc (Below.trans B2.out (BW.mono (by omega))) (by omega) (.cells #[.int .i64 (R : Nat), .int .i64 A, .int .i64 C] 36))
                  have CX := Lib.hid (show ∀ j, j < ps.length → ((w6.setCell ⟨w2.heap.size, 2, none⟩ (.int .i64 C)).alloc (.cells #[.int .i64 (R : Nat), .int .i64 A, .int .i64 C] 36)).cell? ⟨w.heap.size + 1, j, none⟩ = some (.string (ps.getD j ⟨#[]⟩)) from fun j hj => cell_alloc_keep _ (bel_pf BW (C2.out j hj)))
                  have g3 : w.heap.size ≤ ((w6.setCell ⟨w2.heap.size, 2, none⟩ (.int .i64 C)).alloc (.cells #[.int .i64 (R : Nat), .int .i64 A, .int .i64 C] 36)).heap.size := hbX.out.size
                  have g1 : k + 1 ≤ maxLen := by unfold maxLen; omega
                  have gg2 : (k + 1) * 24 ≤ 140737488355328 := by omega
                  have g4 : (Value.agg #[.int .i64 0, .int .i64 0, .int .i64 0]).cells.size = 3 := rfl
                  have g5 : Reads ((w6.setCell ⟨w2.heap.size, 2, none⟩ (.int .i64 C)).alloc (.cells #[.int .i64 (R : Nat), .int .i64 A, .int .i64 C] 36)) (w6.heap.size + 1) 3 (some ⟨w6.heap.size, 0, none⟩) 1 (E3.cs ⟨(R : Nat), A, C⟩) := by have h9 := reads_rw (w6.setCell ⟨w2.heap.size, 2, none⟩ (.int .i64 C)) (R : Nat) A C; rwa [show (w6.setCell ⟨w2.heap.size, 2, none⟩ (.int .i64 C)).heap.size = w6.heap.size from by first | rfl | simp] at h9
                  have g6 := E3.one ⟨(R : Nat), A, C⟩
                  have gz : w.heap.size + 1 < ((w6.setCell ⟨w2.heap.size, 2, none⟩ (.int .i64 C)).alloc (.cells #[.int .i64 (R : Nat), .int .i64 A, .int .i64 C] 36)).heap.size := by have := (alloc_sz (w6.setCell ⟨w2.heap.size, 2, none⟩ (.int .i64 C)) (.cells #[.int .i64 (R : Nat), .int .i64 A, .int .i64 C] 36)); omega
                  clear HC2 HRE
                  go_wp2_with (at_builtin; go_loud (refine wpList_append_any _ rfl (.tmp 52) (.tmp 54) 22 rfl w.heap.size 36 i0 (.agg #[.int .i64 0, .int .i64 0, .int .i64 0]) 3 24 Tryd.underlying22 hi hz0 hz1 hz2 g4 (by decide) (.slice aU k cU) k ((xs.take k).flatMap E3.cs) ?hs ?ho (w6.heap.size + 1) (some ⟨w6.heap.size, 0, none⟩) 1 1 (E3.cs ⟨(R : Nat), A, C⟩) ?hx ?hr ?h1 ?h63 ?hb ?hbs ?_; (case hs => rfl); (case h63 => exact g1); (case hb => exact gg2); (case hbs => exact g3); (case h1 => exact g6); (case hx => rfl); (case hr => exact g5); (case ho => with_reducible exact OX.out); intro v3 w4 hown3 hg3 hat3; have S4 := Lib.hid (show w4.ownsRow w.heap.size 36 3 v3 (k + 1) ((xs.take (k + 1)).flatMap E3.cs) from (by rw [HT.out, List.flatMap_append]; simpa using hown3)); have B4 := Lib.hid (grown_below hbX.out OX.out hg3 (Nat.le_refl _) g3); have C4 := Lib.hid (show ∀ j, j < ps.length → w4.cell? ⟨w.heap.size + 1, j, none⟩ = some (.string (ps.getD j ⟨#[]⟩)) from fun j hj => cell_other hg3 hNE.out (CX.out j hj)); have N4 := Lib.hid (show v3.ownBlock ≠ some (w.heap.size + 1) from blk_app hat3 gz hNE.out); have z4 := Nat.le_trans (Nat.succ_le_of_lt gz) hg3.size; clear hown3 hg3 hat3))
                  go_roundw
                  case rel => exact ⟨k + 1, v3, rfl, by omega, by go_num, S4, B4, z4, C4, N4⟩
                  case measure => simp [intOf]; omega
                · have j3 : ¬ (2 : Int) < (ws.length : Int) := by omega
                  have HT := Lib.hid (HRE.out A 0 HF1.out (show fldE atoG ws 2 = 0 from by unfold fldE; rw [if_neg n2]))
                  have y0 : (w5.setCell ⟨w2.heap.size, 1, none⟩ (.int .i64 A)).cell? ⟨w2.heap.size, 0, none⟩ = some (.int .i64 (R : Nat)) := cell_set_oth x0 (by decide)
                  have y1 : (w5.setCell ⟨w2.heap.size, 1, none⟩ (.int .i64 A)).cell? ⟨w2.heap.size, 1, none⟩ = some (.int .i64 A) := World.cell?_setCell_same _ _ _ x1
                  have y2 : (w5.setCell ⟨w2.heap.size, 1, none⟩ (.int .i64 A)).cell? ⟨w2.heap.size, 2, none⟩ = some (.int .i64 0) := cell_set_oth x2 (by decide)
                  have BW : Below w2.heap.size w2 (w5.setCell ⟨w2.heap.size, 1, none⟩ (.int .i64 A)) := Below.setCell b3 (Nat.le_refl _) _
                  have OW := Lib.hid (own_below O2.out BW rfl)
                  have OX := Lib.hid (World.ownsRow.alloc OW.out (.cells #[.int .i64 (R : Nat), .int .i64 A, .int .i64 0] 36))
                  have zBW : w2.heap.size ≤ (w5.setCell ⟨w2.heap.size, 1, none⟩ (.int .i64 A)).heap.size := BW.size
                  have hbX := Lib.hid (Below.alloc (Below.trans B2.out (BW.mono (by omega))) (by omega) (.cells #[.int .i64 (R : Nat), .int .i64 A, .int .i64 0] 36))
                  have CX := Lib.hid (show ∀ j, j < ps.length → ((w5.setCell ⟨w2.heap.size, 1, none⟩ (.int .i64 A)).alloc (.cells #[.int .i64 (R : Nat), .int .i64 A, .int .i64 0] 36)).cell? ⟨w.heap.size + 1, j, none⟩ = some (.string (ps.getD j ⟨#[]⟩)) from fun j hj => cell_alloc_keep _ (bel_pf BW (C2.out j hj)))
                  have g3 : w.heap.size ≤ ((w5.setCell ⟨w2.heap.size, 1, none⟩ (.int .i64 A)).alloc (.cells #[.int .i64 (R : Nat), .int .i64 A, .int .i64 0] 36)).heap.size := hbX.out.size
                  have g1 : k + 1 ≤ maxLen := by unfold maxLen; omega
                  have gg2 : (k + 1) * 24 ≤ 140737488355328 := by omega
                  have g4 : (Value.agg #[.int .i64 0, .int .i64 0, .int .i64 0]).cells.size = 3 := rfl
                  have g5 : Reads ((w5.setCell ⟨w2.heap.size, 1, none⟩ (.int .i64 A)).alloc (.cells #[.int .i64 (R : Nat), .int .i64 A, .int .i64 0] 36)) (w5.heap.size + 1) 3 (some ⟨w5.heap.size, 0, none⟩) 1 (E3.cs ⟨(R : Nat), A, 0⟩) := by have h9 := reads_rw (w5.setCell ⟨w2.heap.size, 1, none⟩ (.int .i64 A)) (R : Nat) A 0; rwa [show (w5.setCell ⟨w2.heap.size, 1, none⟩ (.int .i64 A)).heap.size = w5.heap.size from by first | rfl | simp] at h9
                  have g6 := E3.one ⟨(R : Nat), A, 0⟩
                  have gz : w.heap.size + 1 < ((w5.setCell ⟨w2.heap.size, 1, none⟩ (.int .i64 A)).alloc (.cells #[.int .i64 (R : Nat), .int .i64 A, .int .i64 0] 36)).heap.size := by have := (alloc_sz (w5.setCell ⟨w2.heap.size, 1, none⟩ (.int .i64 A)) (.cells #[.int .i64 (R : Nat), .int .i64 A, .int .i64 0] 36)); omega
                  clear HC2 HRE
                  go_wp2_with (at_builtin; go_loud (refine wpList_append_any _ rfl (.tmp 52) (.tmp 54) 22 rfl w.heap.size 36 i0 (.agg #[.int .i64 0, .int .i64 0, .int .i64 0]) 3 24 Tryd.underlying22 hi hz0 hz1 hz2 g4 (by decide) (.slice aU k cU) k ((xs.take k).flatMap E3.cs) ?hs ?ho (w5.heap.size + 1) (some ⟨w5.heap.size, 0, none⟩) 1 1 (E3.cs ⟨(R : Nat), A, 0⟩) ?hx ?hr ?h1 ?h63 ?hb ?hbs ?_; (case hs => rfl); (case h63 => exact g1); (case hb => exact gg2); (case hbs => exact g3); (case h1 => exact g6); (case hx => rfl); (case hr => exact g5); (case ho => with_reducible exact OX.out); intro v3 w4 hown3 hg3 hat3; have S4 := Lib.hid (show w4.ownsRow w.heap.size 36 3 v3 (k + 1) ((xs.take (k + 1)).flatMap E3.cs) from (by rw [HT.out, List.flatMap_append]; simpa using hown3)); have B4 := Lib.hid (grown_below hbX.out OX.out hg3 (Nat.le_refl _) g3); have C4 := Lib.hid (show ∀ j, j < ps.length → w4.cell? ⟨w.heap.size + 1, j, none⟩ = some (.string (ps.getD j ⟨#[]⟩)) from fun j hj => cell_other hg3 hNE.out (CX.out j hj)); have N4 := Lib.hid (show v3.ownBlock ≠ some (w.heap.size + 1) from blk_app hat3 gz hNE.out); have z4 := Nat.le_trans (Nat.succ_le_of_lt gz) hg3.size; clear hown3 hg3 hat3))
                  go_roundw
                  case rel => exact ⟨k + 1, v3, rfl, by omega, by go_num, S4, B4, z4, C4, N4⟩
                  case measure => simp [intOf]; omega
              · have j2 : ¬ (1 : Int) < (ws.length : Int) := by omega
                have j3 : ¬ (2 : Int) < (ws.length : Int) := by omega
                have HT := Lib.hid (HRE.out 0 0 (show fldE atoG ws 1 = 0 from by unfold fldE; rw [if_neg n1]) (show fldE atoG ws 2 = 0 from by unfold fldE; rw [if_neg (by omega)]))
                have y0 := x0
                have y1 := x1
                have y2 := x2
                have BW : Below w2.heap.size w2 wi := b3
                have OW := Lib.hid (own_below O2.out BW rfl)
                have OX := Lib.hid (World.ownsRow.alloc OW.out (.cells #[.int .i64 (R : Nat), .int .i64 0, .int .i64 0] 36))
                have zBW : w2.heap.size ≤ (wi).heap.size := BW.size
                have hbX := Lib.hid (Below.alloc (Below.trans B2.out (BW.mono (by omega))) (by omega) (.cells #[.int .i64 (R : Nat), .int .i64 0, .int .i64 0] 36))
                have CX := Lib.hid (show ∀ j, j < ps.length → ((wi).alloc (.cells #[.int .i64 (R : Nat), .int .i64 0, .int .i64 0] 36)).cell? ⟨w.heap.size + 1, j, none⟩ = some (.string (ps.getD j ⟨#[]⟩)) from fun j hj => cell_alloc_keep _ (bel_pf BW (C2.out j hj)))
                have g3 : w.heap.size ≤ ((wi).alloc (.cells #[.int .i64 (R : Nat), .int .i64 0, .int .i64 0] 36)).heap.size := hbX.out.size
                have g1 : k + 1 ≤ maxLen := by unfold maxLen; omega
                have gg2 : (k + 1) * 24 ≤ 140737488355328 := by omega
                have g4 : (Value.agg #[.int .i64 0, .int .i64 0, .int .i64 0]).cells.size = 3 := rfl
                have g5 : Reads ((wi).alloc (.cells #[.int .i64 (R : Nat), .int .i64 0, .int .i64 0] 36)) (wi.heap.size + 1) 3 (some ⟨wi.heap.size, 0, none⟩) 1 (E3.cs ⟨(R : Nat), 0, 0⟩) := by have h9 := reads_rw (wi) (R : Nat) 0 0; rwa [show (wi).heap.size = wi.heap.size from by first | rfl | simp] at h9
                have g6 := E3.one ⟨(R : Nat), 0, 0⟩
                have gz : w.heap.size + 1 < ((wi).alloc (.cells #[.int .i64 (R : Nat), .int .i64 0, .int .i64 0] 36)).heap.size := by have := (alloc_sz (wi) (.cells #[.int .i64 (R : Nat), .int .i64 0, .int .i64 0] 36)); omega
                clear HC2 HRE
                go_wp2_with (at_builtin; go_loud (refine wpList_append_any _ rfl (.tmp 52) (.tmp 54) 22 rfl w.heap.size 36 i0 (.agg #[.int .i64 0, .int .i64 0, .int .i64 0]) 3 24 Tryd.underlying22 hi hz0 hz1 hz2 g4 (by decide) (.slice aU k cU) k ((xs.take k).flatMap E3.cs) ?hs ?ho (wi.heap.size + 1) (some ⟨wi.heap.size, 0, none⟩) 1 1 (E3.cs ⟨(R : Nat), 0, 0⟩) ?hx ?hr ?h1 ?h63 ?hb ?hbs ?_; (case hs => rfl); (case h63 => exact g1); (case hb => exact gg2); (case hbs => exact g3); (case h1 => exact g6); (case hx => rfl); (case hr => exact g5); (case ho => with_reducible exact OX.out); intro v3 w4 hown3 hg3 hat3; have S4 := Lib.hid (show w4.ownsRow w.heap.size 36 3 v3 (k + 1) ((xs.take (k + 1)).flatMap E3.cs) from (by rw [HT.out, List.flatMap_append]; simpa using hown3)); have B4 := Lib.hid (grown_below hbX.out OX.out hg3 (Nat.le_refl _) g3); have C4 := Lib.hid (show ∀ j, j < ps.length → w4.cell? ⟨w.heap.size + 1, j, none⟩ = some (.string (ps.getD j ⟨#[]⟩)) from fun j hj => cell_other hg3 hNE.out (CX.out j hj)); have N4 := Lib.hid (show v3.ownBlock ≠ some (w.heap.size + 1) from blk_app hat3 gz hNE.out); have z4 := Nat.le_trans (Nat.succ_le_of_lt gz) hg3.size; clear hown3 hg3 hat3))
                go_roundw
                case rel => exact ⟨k + 1, v3, rfl, by omega, by go_num, S4, B4, z4, C4, N4⟩
                case measure => simp [intOf]; omega
            exact EachB.nil
          exact EachB.nil
        exact EachB.nil
      · have ek : k = ps.length := by omega
        subst ek
        have i2 : ¬ (ps.length : Int) < (ps.length : Int) := by omega
        have hO2 := hO.out
        rw [List.take_of_length_le (by rw [HLN.out]; exact Nat.le_refl _)] at hO2
        have OE : OwnE wr w.heap.size 36 u E3.cs 3 xs := by unfold OwnE; rw [HLN.out]; exact hO2
        clear hO2 hO hNE hC
        obtain ⟨a3, c3, rfl⟩ := OE.forms
        have HO := Lib.hid OE
        have RR := Lib.hid OE.rd
        clear OE
        have hxl : xs.length ≤ 2097152 := by rw [HLN.out]; omega
        go_wp2_with fail
        refine (impl_FormatLog_any _ xs _ RR.out hxl (HTB.out.call hB.out)).mono ?_; rintro e w4 ⟨rfl, hb4⟩
        have B4 := Lib.hid (Below.trans hB.out (hb4.mono (by omega)))
        have O4 := Lib.hid (HO.out.below hb4 rfl)
        clear hb4
        cases hv : logB xs with
        | false =>
          have HG := Lib.hid (show goodL atoG s = false from by unfold goodL; rw [← HX.out, hv]; rfl)
          have HRR := Lib.hid (show logR atoG s = [] from by rw [HR.out, HG.out]; rfl)
          clear hv
          have bq := B4.out
          go_wp2_with fail
          go_ret2
          exact ⟨_, by (rw [HQ.out, HG.out]; try rfl), by (rw [HRR.out]; exact OwnE.nil _ _ _), (by repeat (first | exact Below.refl _ _ | assumption | refine Below.drew ?_ | refine below_drewN ?_ _ | refine Below.alloc ?_ (by first | omega | (simp <;> omega)) _ | refine Below.setCell ?_ (by first | omega | (simp <;> omega)) _ | refine Below.trans ?_ (Below.mono (by assumption) (by first | omega | (simp <;> omega)))))⟩
        | true =>
          have HV := Lib.hid hv
          rw [logStr_yes hv]
          clear hv
          have bq := B4.out
          by_cases ht : logText xs = s
          · have HG := Lib.hid (show goodL atoG s = true from by unfold goodL; rw [← HX.out, HV.out, decide_eq_true ht]; rfl)
            have HRR := Lib.hid (show logR atoG s = xs from by rw [HR.out, HG.out, if_pos rfl, HX.out])
            have hne : ((logText xs).toList == s.toList) = true := by rw [ht]; exact beq_self_eq_true _
            obtain ⟨Tx, hTx⟩ : ∃ T, T = logText xs := ⟨_, rfl⟩
            rw [← hTx] at hne ⊢
            clear ht hTx
            go_wp2_with fail
            go_ret2
            exact ⟨_, by (rw [HQ.out, HG.out]; try rfl), by (rw [HRR.out]; exact O4.out), (by repeat (first | exact Below.refl _ _ | assumption | refine Below.drew ?_ | refine below_drewN ?_ _ | refine Below.alloc ?_ (by first | omega | (simp <;> omega)) _ | refine Below.setCell ?_ (by first | omega | (simp <;> omega)) _ | refine Below.trans ?_ (Below.mono (by assumption) (by first | omega | (simp <;> omega)))))⟩
          · have HG := Lib.hid (show goodL atoG s = false from by unfold goodL; rw [← HX.out, HV.out, decide_eq_false ht]; rfl)
            have HRR := Lib.hid (show logR atoG s = [] from by rw [HR.out, HG.out]; rfl)
            have hne : ((logText xs).toList == s.toList) = false := beq_eq_false_iff_ne.2 (by
              rw [Lib.toList_data, Lib.toList_data]
              exact fun e => ht (bytes_inj e))
            obtain ⟨Tx, hTx⟩ : ∃ T, T = logText xs := ⟨_, rfl⟩
            rw [← hTx] at hne ⊢
            clear ht hTx
            go_wp2_with fail
            go_ret2
            exact ⟨_, by (rw [HQ.out, HG.out]; try rfl), by (rw [HRR.out]; exact OwnE.nil _ _ _), (by repeat (first | exact Below.refl _ _ | assumption | refine Below.drew ?_ | refine below_drewN ?_ _ | refine Below.alloc ?_ (by first | omega | (simp <;> omega)) _ | refine Below.setCell ?_ (by first | omega | (simp <;> omega)) _ | refine Below.trans ?_ (Below.mono (by assumption) (by first | omega | (simp <;> omega)))))⟩
end Go.Proofs.YtindldkileidmaaDoor
