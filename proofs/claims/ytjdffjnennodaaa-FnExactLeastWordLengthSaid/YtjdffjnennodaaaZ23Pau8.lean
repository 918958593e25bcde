/- A valid tableau: the reference's test. -/
import Derived.Test.YtjdffjnennodaaaZ22Pau7
import Derived.Test.YtjdffjnennodaaaZ11Brk
namespace Go.Proofs.Ytjdffjnennodaaa
set_option linter.unusedSimpArgs false
set_option linter.unusedVariables false
set_option linter.unnecessarySimpa false
set_option maxRecDepth 200000
open Go.ChangeShapes Go.WideShapes Go.ChangeAt Go.RowKit

theorem grown_old0 {w w' : World} {v u : Value} {sz n b o : Nat} {e : TypeId} {xs : List Value} (hown : w.ownsRow (b + 1) e sz v n xs) (hg : w.grownBy w' v.ownBlock) (hc : w.cell? ⟨b, o, none⟩ = some u) : w'.cell? ⟨b, o, none⟩ = some u :=
  (grown_old hown hg (Nat.lt_succ_self b) (World.block_lt_of_cell? w ⟨b, o, none⟩ hc)).1.trans hc
theorem tab_bad {d : Tab} {i : Nat} (hi : i < d.xs.length + d.zs.length) (h : ¬ ImOk d.n ((d.xs ++ d.zs).getD i ⟨0, 0, 0⟩)) : false = tabB d :=
  (decide_eq_false fun k => h (k.2.2.2.1 i hi)).symm
def ImsTo (n : Int) (L : List E3) (k : Nat) : Prop := ∀ i, i < k → ImOk n (L.getD i ⟨0, 0, 0⟩)
theorem ImsTo.next {n : Int} {L : List E3} {k : Nat} (h : ImsTo n L k) (h2 : ImOk n (L.getD k ⟨0, 0, 0⟩)) : ImsTo n L (k + 1) := by
  intro i hi
  by_cases e : i = k
  · subst e; exact h2
  · exact h i (by omega)
theorem pauB_ok {n : Int} {g : E3} (h : pauB n g = true) : PauOk n g := (of_decide_eq_true h).2
set_option maxHeartbeats 16000000 in
theorem spec_l7Good_any (d : Tab) (v0 v1 : Value) (w : World) (h0 : RdE w v0 E3.cs 3 d.xs) (h1 : RdE w v1 E3.cs 3 d.zs) (n0 : d.xs.length ≤ 1048576) (n1 : d.zs.length ≤ 1048576) :
    Calls Try.prog 27 #[.agg #[.int .i64 d.n, v0, v1]] w fun e w' => e = .returned (.bool (tabB d)) ∧ Below w.heap.size w w' := by
  have H0 := Lib.hid h0; have H1 := Lib.hid h1
  obtain ⟨i0, hi, hz0, hz1, hz2⟩ := info_parts info_Pauli
  obtain ⟨A, c, rfl, _⟩ := h0.form
  obtain ⟨A2, c2, rfl, _⟩ := h1.form
  clear h0 h1
  by_cases hn : 1 ≤ d.n ∧ d.n ≤ 5
  · have N1 := Lib.hid (show inB d.n 1 5 = true from by simpa [inB] using hn)
    by_cases hx : (d.xs.length : Int) = d.n
    · have gx : ((d.xs.length : Int) != d.n) = false := by simpa using hx
      by_cases hz : (d.zs.length : Int) = d.n
      · have gz : ((d.zs.length : Int) != d.n) = false := by simpa using hz
        have HN := Lib.hid hn; have HX := Lib.hid hx; have HZ := Lib.hid hz
        have hpos : 0 < d.xs.length := by omega
        clear hn hx hz
        obtain ⟨L, hL⟩ : ∃ L, L = d.xs ++ d.zs := ⟨_, rfl⟩
        have HL := Lib.hid hL
        have HLL : Hid (L.length = d.xs.length + d.zs.length) := (show _ = _ by rw [hL]; exact List.length_append)
        have HLF : Hid (L.flatMap E3.cs = d.xs.flatMap E3.cs ++ d.zs.flatMap E3.cs) := (show _ = _ by rw [hL]; exact List.flatMap_append)
        clear hL
        go_enter Try.func27, Try.ntmps27
        go_wp2_with (go_at_call 50; refine (l1In_is N1.out _).mono ?_; rintro e w' ⟨rfl, rfl⟩)
        have t1 : (w.alloc (.cells #[.int .i64 d.n, .slice A d.xs.length c, .slice A2 d.zs.length c2] 30)).cell? ⟨w.heap.size, 1, none⟩ = some (.slice A d.xs.length c) := (by repeat (first | (refine Eq.trans (World.cell?_alloc_at _ _ _ _ ?hh) ?_; (case hh => (simp; done)); rfl) | refine cell_alloc_keep _ ?_))
        have t2 : (w.alloc (.cells #[.int .i64 d.n, .slice A d.xs.length c, .slice A2 d.zs.length c2] 30)).cell? ⟨w.heap.size, 2, none⟩ = some (.slice A2 d.zs.length c2) := (by repeat (first | (refine Eq.trans (World.cell?_alloc_at _ _ _ _ ?hh) ?_; (case hh => (simp; done)); rfl) | refine cell_alloc_keep _ ?_))
        have t0 : (w.alloc (.cells #[.int .i64 d.n, .slice A d.xs.length c, .slice A2 d.zs.length c2] 30)).cell? ⟨w.heap.size, 0, none⟩ = some (.int .i64 d.n) := (by repeat (first | (refine Eq.trans (World.cell?_alloc_at _ _ _ _ ?hh) ?_; (case hh => (simp; done)); rfl) | refine cell_alloc_keep _ ?_))
        refine AnyB.begin (S := (fun w' => w'.cell? ⟨w.heap.size, 1, none⟩ = some (.slice A d.xs.length c) ∧ w'.cell? ⟨w.heap.size, 2, none⟩ = some (.slice A2 d.zs.length c2))) [] (by kernel_rfl) ?_ (fun hHeld0 => ?_)
        · ((try dsimp only); (first | exact ⟨t1, t2⟩ | (go_split_ands; exact ⟨cell_alloc_keep _ (by assumption), cell_alloc_keep _ (by assumption)⟩)))
        refine AnyB.takeQ (i := 1) (oi := _) (v := ?_) (by simp only [List.getElem?_toArray, List.getElem?_cons_zero, List.getElem?_cons_succ]; rfl) (by kernel_rfl) (by kernel_rfl) (by kernel_rfl) (by intro _ _ _ h; exact h) (Or.inl ⟨by rfl, ?_⟩) ?_
        rotate_left
        · (intro w hSw; (try dsimp only at hSw); go_simp; (try (with_reducible rfl)))
        try simp only [Act.put, List.setIfInBounds_toArray, List.set_cons_zero, List.set_cons_succ]
        refine AnyB.take (i := 2) (oi := _) (v := ?_) (by simp only [List.getElem?_toArray, List.getElem?_cons_zero, List.getElem?_cons_succ]; rfl) (by kernel_rfl) (by kernel_rfl) (by kernel_rfl) (by kernel_rfl) (by kernel_rfl) (by intro _ _ _ h; exact h) (Or.inl ⟨by rfl, ?_⟩) (by assumption) ?_
        rotate_left
        · (intro w hSw; (try dsimp only at hSw); go_simp; (try (with_reducible rfl)))
        try simp only [Act.put, List.setIfInBounds_toArray, List.set_cons_zero, List.set_cons_succ]
        refine AnyB.takeQ (i := 4) (oi := _) (v := ?_) (by simp only [List.getElem?_toArray, List.getElem?_cons_zero, List.getElem?_cons_succ]; rfl) (by kernel_rfl) (by kernel_rfl) (by kernel_rfl) (by intro _ _ _ h; exact h) (Or.inl ⟨by rfl, ?_⟩) ?_
        rotate_left
        · (intro w hSw; (try dsimp only at hSw); go_simp; (try (with_reducible rfl)))
        try simp only [Act.put, List.setIfInBounds_toArray, List.set_cons_zero, List.set_cons_succ]
        refine AnyB.take (i := 5) (oi := _) (v := ?_) (by simp only [List.getElem?_toArray, List.getElem?_cons_zero, List.getElem?_cons_succ]; rfl) (by kernel_rfl) (by kernel_rfl) (by kernel_rfl) (by kernel_rfl) (by kernel_rfl) (by intro _ _ _ h; exact h) (Or.inl ⟨by rfl, ?_⟩) (by assumption) ?_
        rotate_left
        · (intro w hSw; (try dsimp only at hSw); go_simp; (try (with_reducible rfl)))
        try simp only [Act.put, List.setIfInBounds_toArray, List.set_cons_zero, List.set_cons_succ]
        refine AnyB.each (rs := [0]) (by kernel_rfl) (by simp) ?_
        refine EachB.cons rfl (fun K hK hB => ?_) ?_
        · skip
          go_simp
          refine hK.out _ _ ?_ (fun hHeld1 => ?_)
          · ((try dsimp only); (first | exact ⟨t1, t2⟩ | (go_split_ands; exact ⟨cell_alloc_keep _ (by assumption), cell_alloc_keep _ (by assumption)⟩)))
          clear hB hK K hHeld0
          refine AnyB.each (rs := [3]) (by kernel_rfl) (by simp) ?_
          refine EachB.cons rfl (fun K hK hB => ?_) ?_
          · skip
            (refine step_append_any _ (by rfl) (.tmp 28) (.tmp 30) 28 (by rfl) (w.heap.size + 1) 62 i0 (.agg #[.int .i64 0, .int .i64 0, .int .i64 0]) 3 24 Try.underlying28 hi hz0 hz1 hz2 rfl (by omega) _ 0 [] (by rfl) (own_lit0 (f := E3.cs) (sz := 3) (w.alloc (.cells #[.int .i64 d.n, .slice A d.xs.length c, .slice A2 d.zs.length c2] 30)).drew (w.heap.size + 1) 62 (w.heap.size + 1) (by simp) (by omega)) w.heap.size A d.xs.length c (d.xs.flatMap E3.cs) (by rfl) ((Reads.of_rd H0.out).below (by repeat (first | exact Below.refl _ _ | assumption | refine Below.drew ?_ | refine below_drewN ?_ _ | refine Below.alloc ?_ (by first | omega | (simp <;> omega)) _ | refine Below.setCell ?_ (by first | omega | (simp <;> omega)) _ | refine Below.trans ?_ (Below.mono (by assumption) (by first | omega | (simp <;> omega)))))) (flat_one E3.one _) (by unfold maxLen; omega) (by omega) (by simp) ?_; intro va w1 hown1 hg1 hat1; have hB1 := Lib.hid (show Below (w.heap.size + 1) (w.alloc (.cells #[.int .i64 d.n, .slice A d.xs.length c, .slice A2 d.zs.length c2] 30)) w1 from grown_below (by repeat (first | exact Below.refl _ _ | assumption | refine Below.drew ?_ | refine below_drewN ?_ _ | refine Below.alloc ?_ (by first | omega | (simp <;> omega)) _ | refine Below.setCell ?_ (by first | omega | (simp <;> omega)) _ | refine Below.trans ?_ (Below.mono (by assumption) (by first | omega | (simp <;> omega))))) (own_lit0 (f := E3.cs) (sz := 3) (w.alloc (.cells #[.int .i64 d.n, .slice A d.xs.length c, .slice A2 d.zs.length c2] 30)).drew (w.heap.size + 1) 62 (w.heap.size + 1) (by simp) (by omega)) hg1 (Nat.le_refl _) (by simp)); have s1 := hg1.size; (simp at s1); replace t0 := (hB1.out.cell (p := ⟨w.heap.size, 0, none⟩) (by simp)).trans t0; replace t1 := (hB1.out.cell (p := ⟨w.heap.size, 1, none⟩) (by simp)).trans t1; replace t2 := (hB1.out.cell (p := ⟨w.heap.size, 2, none⟩) (by simp)).trans t2; have O1 := Lib.hid hown1; (simp only [Nat.zero_add, List.nil_append] at O1); clear hown1 hg1 hat1)
            refine hK.out _ _ ?_ (fun hHeld2 => ?_)
            · ((try dsimp only); (first | exact ⟨t1, t2⟩ | (go_split_ands; exact ⟨cell_alloc_keep _ (by assumption), cell_alloc_keep _ (by assumption)⟩)))
            clear hB hK K hHeld1
            refine AnyB.each (rs := [6]) (by kernel_rfl) (by simp) ?_
            refine EachB.cons rfl (fun K hK hB => ?_) ?_
            · skip
              (refine step_append_any _ (by rfl) (.tmp 31) (.tmp 33) 28 (by rfl) (w.heap.size + 1) 62 i0 (.agg #[.int .i64 0, .int .i64 0, .int .i64 0]) 3 24 Try.underlying28 hi hz0 hz1 hz2 rfl (by omega) va d.xs.length _ (by rfl) O1.out w.heap.size A2 d.zs.length c2 (d.zs.flatMap E3.cs) (by rfl) ((Reads.of_rd H1.out).below (Below.trans (show Below w.heap.size w (w.alloc (.cells #[.int .i64 d.n, .slice A d.xs.length c, .slice A2 d.zs.length c2] 30)) from (by repeat (first | exact Below.refl _ _ | assumption | refine Below.drew ?_ | refine below_drewN ?_ _ | refine Below.alloc ?_ (by first | omega | (simp <;> omega)) _ | refine Below.setCell ?_ (by first | omega | (simp <;> omega)) _ | refine Below.trans ?_ (Below.mono (by assumption) (by first | omega | (simp <;> omega)))))) (hB1.out.mono (by omega)))) (flat_one E3.one _) (by unfold maxLen; omega) (by omega) (by omega) ?_; intro vb w2 hown2 hg2 hat2; have hB2 := Lib.hid (show Below (w.heap.size + 1) (w.alloc (.cells #[.int .i64 d.n, .slice A d.xs.length c, .slice A2 d.zs.length c2] 30)) w2 from grown_below hB1.out O1.out hg2 (Nat.le_refl _) (by omega)); have s2 := hg2.size; replace t0 := grown_old0 O1.out hg2 t0; replace t1 := grown_old0 O1.out hg2 t1; replace t2 := grown_old0 O1.out hg2 t2; have O2 := Lib.hid hown2; clear hown2 hg2 hat2 hB1 O1)
              refine hK.out _ _ ?_ (fun hHeld3 => ?_)
              · ((try dsimp only); (first | exact ⟨t1, t2⟩ | (go_split_ands; exact ⟨cell_alloc_keep _ (by assumption), cell_alloc_keep _ (by assumption)⟩)))
              clear hB hK K hHeld2
              refine AnyB.takeQ (i := 7) (oi := _) (v := ?_) (by simp only [List.getElem?_toArray, List.getElem?_cons_zero, List.getElem?_cons_succ]; rfl) (by kernel_rfl) (by kernel_rfl) (by kernel_rfl) (by intro _ _ _ h; exact h) (Or.inl ⟨by rfl, ?_⟩) ?_
              rotate_left
              · (intro w hSw; (try dsimp only at hSw); go_simp; (try (with_reducible rfl)))
              try simp only [Act.put, List.setIfInBounds_toArray, List.set_cons_zero, List.set_cons_succ]
              refine AnyB.none (by kernel_rfl) ?_ _
              have HO := Lib.hid (show OwnE w2 (w.heap.size + 1) 62 vb E3.cs 3 L from by unfold OwnE; rw [HLL.out, HLF.out]; exact O2.out); clear O2
              obtain ⟨N, hN⟩ : ∃ N, N = L.length := ⟨_, rfl⟩
              have HNN : Hid ((N : Int) = d.n + d.n) := (show _ = _ by have := HX.out; have := HZ.out; have := HLL.out; omega)
              obtain ⟨n2, n3⟩ := HN.out
              have hN2 : (N : Int) ≤ 10 := by have := HNN.out; omega
              obtain ⟨g, off, cv, rfl, hg, hcap, hcm, hcs⟩ := (RdE.cases0 E3.len HO.out.rd).elim (fun h => by have h2 := HLL.out; rw [h.1] at h2; simp at h2; omega) (fun h => h.2)
              rw [← hN] at HLL hcap ⊢
              have HNE := Lib.hid hN; have Hcs := Lib.hid hcs
              have bw2 := Lib.hid (show Below w.heap.size w w2 from Below.trans (show Below w.heap.size w (w.alloc (.cells #[.int .i64 d.n, .slice A d.xs.length c, .slice A2 d.zs.length c2] 30)) from (by repeat (first | exact Below.refl _ _ | assumption | refine Below.drew ?_ | refine below_drewN ?_ _ | refine Below.alloc ?_ (by first | omega | (simp <;> omega)) _ | refine Below.setCell ?_ (by first | omega | (simp <;> omega)) _ | refine Below.trans ?_ (Below.mono (by assumption) (by first | omega | (simp <;> omega)))))) (hB2.out.mono (by omega)))
              have k1 : (N : Int) ≤ (cv : Int) := by omega
              have k2 : (cv : Int) ≤ 9223372036854775807 := by omega
              clear hN hcs t1 t2 hB2 HO
              go_wp2_with fail
              go_loopw [37] (fun i wr => ∃ k : Nat, k ≤ N ∧ i = .int .i64 k ∧ Hid (ImsTo d.n L k) ∧ Hid (PairsTo d.n L k) ∧ Hid (Below w2.heap.size w2 wr)) (fun i _ => N - (intOf i).toNat)
              case atStart => exact ⟨0, Nat.zero_le _, rfl, (show ImsTo _ _ _ from fun i hi => absurd hi (Nat.not_lt_zero _)), (show PairsTo _ _ _ from fun i hi => absurd hi (Nat.not_lt_zero _)), (show Below _ _ _ from Below.refl _ _)⟩
              case round =>
                obtain ⟨k, hk, rfl, him, hpr, hbel⟩ := hrel
                by_cases hlt : k < N
                · have i1 : (k : Int) < (N : Int) := by omega
                  have i2 : (k : Int) ≤ (cv : Int) := by omega
                  obtain ⟨wo, rfl⟩ : ∃ wo : World, wo = wr := ⟨_, rfl⟩
                  have hkL : k < L.length := by rw [← HNE.out]; exact hlt
                  obtain ⟨y, hy⟩ : ∃ y, y = L.getD k ⟨0, 0, 0⟩ := ⟨_, rfl⟩
                  have hy2 := hy.trans (getD_E hkL)
                  have q0 := (hbel.out.cell (p := ⟨g, off + k * 3, none⟩) hg).trans (Hcs.out k hkL 0 (.int .i64 y.a) (by omega) (by rw [hy2]; rfl))
                  have q1 := (hbel.out.cell (p := ⟨g, off + k * 3 + 1, none⟩) hg).trans (Hcs.out k hkL 1 (.int .i64 y.b) (by omega) (by rw [hy2]; rfl))
                  have q2 := (hbel.out.cell (p := ⟨g, off + k * 3 + 2, none⟩) hg).trans (Hcs.out k hkL 2 (.int .i64 y.c) (by omega) (by rw [hy2]; rfl))
                  have T0 := (hbel.out.cell (p := ⟨w.heap.size, 0, none⟩) (World.block_lt_of_cell? w2 _ t0)).trans t0
                  have HY := Lib.hid hy
                  have zo := hbel.out.size
                  clear hy hy2 hkL
                  have LT := World.block_lt_of_cell? wo _ T0
                  cases hp : pauB d.n y with
                  | false =>
                    have Hp := Lib.hid hp; clear hp
                    go_wp2_with (go_at_call 51; refine (spec_l7Valid_any d.n y _).mono ?_; rintro e w3 ⟨rfl, hb3⟩; rw [Hp.out])
                    go_ret
                    exact ⟨ret_bool (tab_bad (i := k) (by have := HLL.out; omega) (by rw [← HL.out, ← HY.out]; exact fun h => by have h2 : pauB d.n y = true := decide_eq_true ⟨HN.out, h.1⟩; rw [Hp.out] at h2; cases h2)), Below.trans bw2.out (Below.trans (hbel.out.mono bw2.out.size) (Below.trans (show Below w.heap.size wo (wo.alloc (.cells #[.int .i64 y.a, .int .i64 y.b, .int .i64 y.c] 62)) from (by repeat (first | exact Below.refl _ _ | assumption | refine Below.drew ?_ | refine below_drewN ?_ _ | refine Below.alloc ?_ (by first | omega | (simp <;> omega)) _ | refine Below.setCell ?_ (by first | omega | (simp <;> omega)) _ | refine Below.trans ?_ (Below.mono (by assumption) (by first | omega | (simp <;> omega)))))) (hb3.mono (by simp; omega))))⟩
                  | true =>
                    obtain ⟨hye, ok1⟩ := (pauB_ok hp).nat n2 n3
                    obtain ⟨a0, a1⟩ := pauB_a hp
                    obtain ⟨P, rfl⟩ : ∃ P : PN, y = P.e := ⟨tn y, hye⟩
                    rw [tn_e] at ok1
                    have Hp := Lib.hid hp; have OK1 := Lib.hid ok1; clear hp hye ok1
                    dsimp only [PN.e] at q0 q1 q2 a0 a1
                    by_cases hodd : (P.p : Int) % 2 = 1
                    · have ho : ((P.p : Int) % 2 == 1) = true := by simpa using hodd
                      have Ho := Lib.hid hodd; clear hodd
                      go_wp2_with (go_at_call 51; refine (spec_l7Valid_any d.n P.e _).mono ?_; rintro e w3 ⟨rfl, hb3⟩; rw [Hp.out]; have e0 := below_cell hb3 rfl (show (wo.alloc (.cells #[.int .i64 (P.p : Int), .int .i64 (P.x : Int), .int .i64 (P.z : Int)] 62)).cell? ⟨wo.heap.size, 0, none⟩ = some (.int .i64 (P.p : Int)) from (by repeat (first | (refine Eq.trans (World.cell?_alloc_at _ _ _ _ ?hh) ?_; (case hh => (simp; done)); rfl) | refine cell_alloc_keep _ ?_))))
                      go_ret
                      exact ⟨ret_bool (tab_bad (i := k) (by have := HLL.out; omega) (by rw [← HL.out, ← HY.out]; exact fun h => by have h2 : (P.p : Int) % 2 = 0 := h.2; have h3 := Ho.out; omega)), Below.trans bw2.out (Below.trans (hbel.out.mono bw2.out.size) (Below.trans (show Below w.heap.size wo (wo.alloc (.cells #[.int .i64 (P.p : Int), .int .i64 (P.x : Int), .int .i64 (P.z : Int)] 62)) from (by repeat (first | exact Below.refl _ _ | assumption | refine Below.drew ?_ | refine below_drewN ?_ _ | refine Below.alloc ?_ (by first | omega | (simp <;> omega)) _ | refine Below.setCell ?_ (by first | omega | (simp <;> omega)) _ | refine Below.trans ?_ (Below.mono (by assumption) (by first | omega | (simp <;> omega)))))) (hb3.mono (by simp; omega))))⟩
                    · have ho : ((P.p : Int) % 2 == 1) = false := by simpa using hodd
                      have him2 : Hid (ImsTo d.n L (k + 1)) := ImsTo.next him.out (by rw [← HY.out]; exact ⟨pauB_ok Hp.out, by show (P.p : Int) % 2 = 0; omega⟩)
                      clear hodd
                      go_wp2_with (go_at_call 51; refine (spec_l7Valid_any d.n P.e _).mono ?_; rintro e w3 ⟨rfl, hb3⟩; rw [Hp.out]; have e0 := below_cell hb3 rfl (show (wo.alloc (.cells #[.int .i64 (P.p : Int), .int .i64 (P.x : Int), .int .i64 (P.z : Int)] 62)).cell? ⟨wo.heap.size, 0, none⟩ = some (.int .i64 (P.p : Int)) from (by repeat (first | (refine Eq.trans (World.cell?_alloc_at _ _ _ _ ?hh) ?_; (case hh => (simp; done)); rfl) | refine cell_alloc_keep _ ?_))); have e1 := below_cell hb3 rfl (show (wo.alloc (.cells #[.int .i64 (P.p : Int), .int .i64 (P.x : Int), .int .i64 (P.z : Int)] 62)).cell? ⟨wo.heap.size, 1, none⟩ = some (.int .i64 (P.x : Int)) from (by repeat (first | (refine Eq.trans (World.cell?_alloc_at _ _ _ _ ?hh) ?_; (case hh => (simp; done)); rfl) | refine cell_alloc_keep _ ?_))); have e2 := below_cell hb3 rfl (show (wo.alloc (.cells #[.int .i64 (P.p : Int), .int .i64 (P.x : Int), .int .i64 (P.z : Int)] 62)).cell? ⟨wo.heap.size, 2, none⟩ = some (.int .i64 (P.z : Int)) from (by repeat (first | (refine Eq.trans (World.cell?_alloc_at _ _ _ _ ?hh) ?_; (case hh => (simp; done)); rfl) | refine cell_alloc_keep _ ?_))); have B3 := Lib.hid (show Below w2.heap.size w2 w3 from Below.trans hbel.out (Below.trans (show Below w2.heap.size wo (wo.alloc (.cells #[.int .i64 (P.p : Int), .int .i64 (P.x : Int), .int .i64 (P.z : Int)] 62)) from (by repeat (first | exact Below.refl _ _ | assumption | refine Below.drew ?_ | refine below_drewN ?_ _ | refine Below.alloc ?_ (by first | omega | (simp <;> omega)) _ | refine Below.setCell ?_ (by first | omega | (simp <;> omega)) _ | refine Below.trans ?_ (Below.mono (by assumption) (by first | omega | (simp <;> omega)))))) (hb3.mono (by simp; omega)))); have S0 := below_cell hb3 rfl (cell_alloc_keep (.cells #[.int .i64 (P.p : Int), .int .i64 (P.x : Int), .int .i64 (P.z : Int)] 62) T0); have z3 := hb3.size; (simp at z3); clear hb3)
                      have LT3 := World.block_lt_of_cell? w3 _ e0
                      have LS3 := World.block_lt_of_cell? w3 _ S0
                      clear q0 q1 q2 hbel T0
                      go_loopw [57] (fun i wr => ∃ j : Nat, j ≤ k ∧ i = .int .i64 j ∧ Hid (PairsAt d.n L k j) ∧ Hid (Below w3.heap.size w3 wr)) (fun i _ => k - (intOf i).toNat)
                      case atStart => exact ⟨0, Nat.zero_le _, rfl, (show PairsAt _ _ _ _ from fun i hi => absurd hi (Nat.not_lt_zero _)), (show Below _ _ _ from Below.refl _ _)⟩
                      case round =>
                        obtain ⟨j, hj, rfl, hpa, hbe2⟩ := hrel
                        have zr := hbe2.out.size
                        by_cases hjl : j < k
                        · have j1 : (j : Int) < (k : Int) := by omega
                          have hjL : j < L.length := by have := HNE.out; omega
                          have HP : Hid (pairB d.n L k j = (commN (tn (L.getD k ⟨0, 0, 0⟩)) (tn (L.getD j ⟨0, 0, 0⟩)) != decide ((k : Int) = (j : Int) + d.n))) := rfl
                          obtain ⟨u, hu⟩ : ∃ u, u = L.getD j ⟨0, 0, 0⟩ := ⟨_, rfl⟩
                          have hu2 := hu.trans (getD_E hjL)
                          have hB := Lib.hid (show Below w2.heap.size w2 wr from Below.trans B3.out (hbe2.out.mono B3.out.size))
                          have q0 := (hB.out.cell (p := ⟨g, off + j * 3, none⟩) hg).trans (Hcs.out j hjL 0 (.int .i64 u.a) (by omega) (by rw [hu2]; rfl))
                          have q1 := (hB.out.cell (p := ⟨g, off + j * 3 + 1, none⟩) hg).trans (Hcs.out j hjL 1 (.int .i64 u.b) (by omega) (by rw [hu2]; rfl))
                          have q2 := (hB.out.cell (p := ⟨g, off + j * 3 + 2, none⟩) hg).trans (Hcs.out j hjL 2 (.int .i64 u.c) (by omega) (by rw [hu2]; rfl))
                          have him3 := him.out j hjl
                          rw [← HY.out, ← hu, tn_e] at HP
                          rw [← hu] at him3
                          obtain ⟨hue, ok2⟩ := him3.1.nat n2 n3
                          obtain ⟨R, rfl⟩ : ∃ R : PN, u = R.e := ⟨tn u, hue⟩
                          rw [tn_e] at ok2 HP
                          have OK2 := Lib.hid ok2
                          dsimp only [PN.e] at q0 q1 q2
                          clear hu hu2 him3 hue ok2 hjL
                          replace e0 := below_cell hbe2.out rfl e0; replace e1 := below_cell hbe2.out rfl e1; replace e2 := below_cell hbe2.out rfl e2; replace S0 := below_cell hbe2.out rfl S0
                          have HT : Hid (((k : Int) == (j : Int) + d.n) = decide ((k : Int) = (j : Int) + d.n)) := (show _ = _ by rw [Bool.eq_iff_iff]; simp only [beq_iff_eq, decide_eq_true_eq])
                          rw [← HT.out] at HP
                          have hw : IntKind.i64.wrap ((j : Int) + d.n) = (j : Int) + d.n := IntWalk.i64_in _ (by omega)
                          cases hc : commN P R <;> cases he : ((k : Int) == (j : Int) + d.n)
                          all_goals
                            have hcc := spec_l7Commute_any P R
                            rw [hc] at hcc
                            have HCM := Lib.hid hcc; clear hcc
                            rw [hc, he] at HP
                            clear hc
                            go_wp2_with fail
                            have f0 := cell_alloc_keep (.cells #[.int .i64 (R.p : Int), .int .i64 (R.x : Int), .int .i64 (R.z : Int)] 62) e0; have f1 := cell_alloc_keep (.cells #[.int .i64 (R.p : Int), .int .i64 (R.x : Int), .int .i64 (R.z : Int)] 62) e1; have f2 := cell_alloc_keep (.cells #[.int .i64 (R.p : Int), .int .i64 (R.x : Int), .int .i64 (R.z : Int)] 62) e2; have fS := cell_alloc_keep (.cells #[.int .i64 (R.p : Int), .int .i64 (R.x : Int), .int .i64 (R.z : Int)] 62) S0
                            have b0 : (wr.alloc (.cells #[.int .i64 (R.p : Int), .int .i64 (R.x : Int), .int .i64 (R.z : Int)] 62)).cell? ⟨wr.heap.size, 0, none⟩ = some (.int .i64 (R.p : Int)) := (by repeat (first | (refine Eq.trans (World.cell?_alloc_at _ _ _ _ ?hh) ?_; (case hh => (simp; done)); rfl) | refine cell_alloc_keep _ ?_))
                            have b1 : (wr.alloc (.cells #[.int .i64 (R.p : Int), .int .i64 (R.x : Int), .int .i64 (R.z : Int)] 62)).cell? ⟨wr.heap.size, 1, none⟩ = some (.int .i64 (R.x : Int)) := (by repeat (first | (refine Eq.trans (World.cell?_alloc_at _ _ _ _ ?hh) ?_; (case hh => (simp; done)); rfl) | refine cell_alloc_keep _ ?_))
                            have b2 : (wr.alloc (.cells #[.int .i64 (R.p : Int), .int .i64 (R.x : Int), .int .i64 (R.z : Int)] 62)).cell? ⟨wr.heap.size, 2, none⟩ = some (.int .i64 (R.z : Int)) := (by repeat (first | (refine Eq.trans (World.cell?_alloc_at _ _ _ _ ?hh) ?_; (case hh => (simp; done)); rfl) | refine cell_alloc_keep _ ?_))
                            go_region_held3 (fun w' => w'.cell? ⟨wo.heap.size, 0, none⟩ = some (.int .i64 (P.p : Int)) ∧ w'.cell? ⟨wo.heap.size, 1, none⟩ = some (.int .i64 (P.x : Int)) ∧ w'.cell? ⟨wo.heap.size, 2, none⟩ = some (.int .i64 (P.z : Int)) ∧ w'.cell? ⟨wr.heap.size, 0, none⟩ = some (.int .i64 (R.p : Int)) ∧ w'.cell? ⟨wr.heap.size, 1, none⟩ = some (.int .i64 (R.x : Int)) ∧ w'.cell? ⟨wr.heap.size, 2, none⟩ = some (.int .i64 (R.z : Int)) ∧ w'.cell? ⟨w.heap.size, 0, none⟩ = some (.int .i64 d.n)) (first | go_keep | (go_split_ands; refine ⟨?_, ?_, ?_, ?_, ?_, ?_, ?_⟩ <;> (refine below_cell hb4 rfl ?_; assumption))) ((go_at_call 52; refine (HCM.out _ OK1.out OK2.out).mono ?_; rintro e w4 ⟨rfl, hb4⟩))
                            have B4 := Lib.hid (show Below w3.heap.size w3 w4 from Below.trans hbe2.out (Below.trans (show Below w3.heap.size wr (wr.alloc (.cells #[.int .i64 (R.p : Int), .int .i64 (R.x : Int), .int .i64 (R.z : Int)] 62)).drew from (by repeat (first | exact Below.refl _ _ | assumption | refine Below.drew ?_ | refine below_drewN ?_ _ | refine Below.alloc ?_ (by first | omega | (simp <;> omega)) _ | refine Below.setCell ?_ (by first | omega | (simp <;> omega)) _ | refine Below.trans ?_ (Below.mono (by assumption) (by first | omega | (simp <;> omega)))))) (hb4.mono (by simp; omega))))
                            clear hb4 hbe2
                            go_wp2_with fail
                            first
                              | (go_roundw
                                 case rel => exact ⟨j + 1, by omega, by go_num, PairsAt.next hpa.out HP.out, B4⟩
                                 case measure => simp [intOf]; omega)
                              | (go_ret
                                 exact ⟨ret_bool (tab_no (i := k) (j := j) (by have := HLL.out; omega) hjl (by rw [← HL.out]; exact HP.out)), Below.trans bw2.out (Below.trans (B3.out.mono bw2.out.size) (B4.out.mono (by have := B3.out.size; have := bw2.out.size; omega)))⟩)
                        · have e : j = k := by omega
                          subst e
                          go_wp2_with fail
                          go_roundw
                          case rel => exact ⟨j + 1, by omega, by go_num, him2, PairsTo.next hpr.out hpa.out, (show Below _ _ _ from Below.trans B3.out (hbe2.out.mono B3.out.size))⟩
                          case measure => simp [intOf]; omega
                · go_wp2_with fail
                  go_ret
                  exact ⟨ret_bool (tab_yes HN.out HX.out HZ.out (fun i hi => by rw [← HL.out]; exact him.out i (by have := HLL.out; omega)) (by rw [← HL.out]; exact hpr.out) (by have := HLL.out; omega)), Below.trans bw2.out (hbel.out.mono bw2.out.size)⟩
            exact EachB.nil
          exact EachB.nil
        exact EachB.nil
      · have HR := Lib.hid (tab_z hz)
        have gz : ((d.zs.length : Int) != d.n) = true := by simpa using hz
        clear hn hx hz
        go_enter Try.func27, Try.ntmps27
        go_wp2_with (go_at_call 50; refine (l1In_is N1.out _).mono ?_; rintro e w' ⟨rfl, rfl⟩)
        go_ret
        exact ⟨ret_bool (by rw [HR.out]), (by repeat (first | exact Below.refl _ _ | assumption | refine Below.drew ?_ | refine below_drewN ?_ _ | refine Below.alloc ?_ (by first | omega | (simp <;> omega)) _ | refine Below.setCell ?_ (by first | omega | (simp <;> omega)) _ | refine Below.trans ?_ (Below.mono (by assumption) (by first | omega | (simp <;> omega)))))⟩
    · have HR := Lib.hid (tab_x hx)
      have gx : ((d.xs.length : Int) != d.n) = true := by simpa using hx
      clear hn hx
      go_enter Try.func27, Try.ntmps27
      go_wp2_with (go_at_call 50; refine (l1In_is N1.out _).mono ?_; rintro e w' ⟨rfl, rfl⟩)
      go_ret
      exact ⟨ret_bool (by rw [HR.out]), (by repeat (first | exact Below.refl _ _ | assumption | refine Below.drew ?_ | refine below_drewN ?_ _ | refine Below.alloc ?_ (by first | omega | (simp <;> omega)) _ | refine Below.setCell ?_ (by first | omega | (simp <;> omega)) _ | refine Below.trans ?_ (Below.mono (by assumption) (by first | omega | (simp <;> omega)))))⟩
  · have HR := Lib.hid (tab_n hn)
    have N1 := Lib.hid (show inB d.n 1 5 = false from by simpa [inB] using hn)
    clear hn
    go_enter Try.func27, Try.ntmps27
    go_wp2_with (go_at_call 50; refine (l1In_is N1.out _).mono ?_; rintro e w' ⟨rfl, rfl⟩)
    go_ret
    exact ⟨ret_bool (by rw [HR.out]), (by repeat (first | exact Below.refl _ _ | assumption | refine Below.drew ?_ | refine below_drewN ?_ _ | refine Below.alloc ?_ (by first | omega | (simp <;> omega)) _ | refine Below.setCell ?_ (by first | omega | (simp <;> omega)) _ | refine Below.trans ?_ (Below.mono (by assumption) (by first | omega | (simp <;> omega)))))⟩
end Go.Proofs.Ytjdffjnennodaaa
