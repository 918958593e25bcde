/- The cell of a product of matrices: the closure of MulMatrix. -/
import Derived.Test.YteimcfbliigjmaaZ28Dy14
import Derived.Test.YteimcfbliigjmaaZ18Brk
import Derived.BigRegion
import Derived.BigQuiet
namespace Go.Proofs.Yteimcfbliigjmaa
set_option linter.unusedSimpArgs false
set_option linter.unusedVariables false
set_option linter.unnecessarySimpa false
set_option maxRecDepth 200000
open Go.ChangeShapes Go.WideShapes Go.ChangeAt Go.RowKit

theorem Sb.push5 {B : Nat} {w0 w : World} {L : List (Nat × List Value)} (h : Sb B w0 w L) (a b c d e : Int) : Sb B w0 (w.alloc (.cells #[.int .i64 a, .int .i64 b, .int .i64 c, .int .i64 d, .int .i64 e] 60)) ((w.heap.size, [.int .i64 a, .int .i64 b, .int .i64 c, .int .i64 d, .int .i64 e]) :: L) :=
  h.push [.int .i64 a, .int .i64 b, .int .i64 c, .int .i64 d, .int .i64 e] 60 rfl
/-- The partial sums of a product's cell, and what each step asks of the program. -/
structure SumOk (r m c : Nat) (A B : Nat → Nat → Dy) (P : Nat → Nat → Nat → Dy) (S : Nat → Nat → Nat → Dy) : Prop where
  zero : ∀ i j, i < r → j < c → S i j 0 = ⟨⟨0, 0, 0, 0⟩, 0⟩
  mul : ∀ i j k, i < r → j < c → k < m → ∀ W : World, Calls Try.prog 28 #[(A i k).v, (B k j).v] W fun e w' => e = .returned (.tuple #[(P i j k).v, .bool true]) ∧ Below W.heap.size W w'
  add : ∀ i j k, i < r → j < c → k < m → ∀ W : World, Calls Try.prog 34 #[(S i j k).v, (P i j k).v] W fun e w' => e = .returned (.tuple #[(S i j (k + 1)).v, .bool true]) ∧ Below W.heap.size W w'
set_option maxHeartbeats 16000000 in
theorem impl_MulCell_ok (r m c i j ma mb : Nat) (A B : Nat → Nat → Dy) (P S : Nat → Nat → Nat → Dy) (w : World) (a b : Option Addr) (ca cb : Nat) (hr : r ≤ 32) (hm : m ≤ 32) (hc : c ≤ 32) (hi : i < r) (hj : j < c) (hS : SumOk r m c A B P S)
    (h1 : RdM w r m a ca A) (h2 : RdM w m c b cb B)
    (hp : Bw w ma [.int .i64 (r : Int), .int .i64 (m : Int), .slice a (r * m) ca]) (hq : Bw w mb [.int .i64 (m : Int), .int .i64 (c : Int), .slice b (m * c) cb]) :
    Calls Try.prog 32 #[.int .i64 (i : Int), .int .i64 (j : Int), .pointer (some ⟨ma, 0, none⟩), .pointer (some ⟨mb, 0, none⟩)] w fun e w' =>
      e = .returned (.tuple #[(S i j m).v, .bool true]) ∧ Below w.heap.size w w' := by
  have HP := Lib.hid hp
  have HQ := Lib.hid hq
  have HM := Lib.hid (hS.mul i j)
  have HAD := Lib.hid (hS.add i j)
  have CA := Lib.hid (fun W k hk h => impl_at_ok r m i k a ca A W hr hm h hi hk)
  have CB := Lib.hid (fun W k hk h => impl_at_ok m c k j b cb B W hm hc h hk hj)
  have HI := Lib.hid hi
  have HJ := Lib.hid hj
  have H1 := Lib.hid h1
  have H2 := Lib.hid h2
  have S0 := Lib.hid (((Sb.nil w).push [.int .i64 0, .int .i64 0, .int .i64 0, .int .i64 0, .int .i64 0] 60 rfl).push [.int .i64 0, .int .i64 0, .int .i64 0, .int .i64 0, .int .i64 0] 60 (g := w.heap.size + 1) (by simp))
  have hz := hS.zero i j hi hj
  obtain ⟨G, hG⟩ : ∃ G, G = S i j := ⟨_, rfl⟩
  have HG := Lib.hid hG
  rw [← hG] at hz ⊢
  have HZ := Lib.hid hz
  replace HAD := Lib.hid (show ∀ k, i < r → j < c → k < m → ∀ W : World, Calls Try.prog 34 #[(G k).v, (P i j k).v] W fun e w' => e = .returned (.tuple #[(G (k + 1)).v, .bool true]) ∧ Below W.heap.size W w' from by rw [hG]; exact HAD.out)
  clear hz hG HG hS hi hj h1 h2 hp hq
  generalize r * m = na at *
  generalize m * c = nb at *
  obtain ⟨⟨a0, a1, a2⟩, -⟩ := (HP.out.callB S0.out.bel HP.out.lt).c3
  go_enter Try.func32, Try.ntmps32
  go_wp2_with fail
  clear a0 a1 a2
  generalize ((w.alloc (.cells #[.int .i64 0, .int .i64 0, .int .i64 0, .int .i64 0, .int .i64 0] 60)).alloc (.cells #[.int .i64 0, .int .i64 0, .int .i64 0, .int .i64 0, .int .i64 0] 60)) = w1 at *
  go_loopw [17] (fun o wr => ∃ k : Nat, k ≤ m ∧ o = .int .i64 (k : Int) ∧ Hid (Sb w.heap.size w wr [(w.heap.size + 1, (G k).cs), (w.heap.size, [.int .i64 0, .int .i64 0, .int .i64 0, .int .i64 0, .int .i64 0])])) (fun o _ => m - (intOf o).toNat)
  case atStart => exact ⟨0, Nat.zero_le _, rfl, by rw [HZ.out]; exact S0⟩
  case round =>
    clear S0 HZ
    obtain ⟨k, hk, rfl, hS⟩ := hrel
    by_cases hlt : k < m
    · have i1 : (k : Int) < (m : Int) := by omega
      have CM := Lib.hid (HM.out k HI.out HJ.out hlt)
      have CD := Lib.hid (HAD.out k HI.out HJ.out hlt)
      have C1 := Lib.hid (fun W h => CA.out W k hlt h)
      have C2 := Lib.hid (fun W h => CB.out W k hlt h)
      have X := Lib.hid hS.out.drew
      clear hS
      obtain ⟨E, hE⟩ : ∃ E, E = G (k + 1) := ⟨_, rfl⟩
      rw [← hE] at CD
      have HE := Lib.hid hE
      clear hE
      generalize P i j k = Q at *
      generalize A i k = y at *
      generalize B k j = z at *
      generalize G k = D at *
      obtain ⟨⟨da, db, dc, dd⟩, de⟩ := D
      obtain ⟨⟨qa, qb, qc, qd⟩, qe⟩ := Q
      obtain ⟨⟨ya, yb, yc, yd⟩, ye⟩ := y
      obtain ⟨⟨za, zb, zc, zd⟩, ze⟩ := z
      obtain ⟨⟨ea, eb, ec, ed⟩, ee⟩ := E
      dsimp only [Dy.v] at C1 C2 CM CD
      obtain ⟨⟨a0, a1, a2⟩, -⟩ := (HP.out.callB X.out.bel HP.out.lt).c3
      obtain ⟨⟨b0, b1, b2⟩, -⟩ := (HQ.out.callB X.out.bel HQ.out.lt).c3
      go_wp2_with fail
      refine AnyB.begin (S := (fun w' => w'.cell? ⟨ma, 0, none⟩ = some (.int .i64 (r : Int)) ∧ w'.cell? ⟨ma, 1, none⟩ = some (.int .i64 (m : Int)) ∧ w'.cell? ⟨ma, 2, none⟩ = some (.slice a na ca) ∧ w'.cell? ⟨mb, 0, none⟩ = some (.int .i64 (m : Int)) ∧ w'.cell? ⟨mb, 1, none⟩ = some (.int .i64 (c : Int)) ∧ w'.cell? ⟨mb, 2, none⟩ = some (.slice b nb cb))) [] (by kernel_rfl) ?_ (fun hHeld0 => ?_)
      · ((try dsimp only); (exact ⟨a0, a1, a2, b0, b1, b2⟩))
      refine AnyB.take (i := 0) (oi := _) (v := ?_) (by simp only [List.getElem?_toArray, List.getElem?_cons_zero, List.getElem?_cons_succ]; rfl) (by kernel_rfl) (by kernel_rfl) (by kernel_rfl) (by kernel_rfl) (by kernel_rfl) (by intro _ _ _ h; exact h) (Or.inl ⟨by rfl, ?_⟩) (by assumption) ?_
      rotate_left
      · (intro w hSw; (try dsimp only at hSw); go_simp; (try (with_reducible rfl)))
      try simp only [Act.put, List.setIfInBounds_toArray, List.set_cons_zero, List.set_cons_succ]
      refine AnyB.takeQ (i := 1) (oi := _) (v := ?_) (by simp only [List.getElem?_toArray, List.getElem?_cons_zero, List.getElem?_cons_succ]; rfl) (by kernel_rfl) (by kernel_rfl) (by kernel_rfl) (by intro _ _ _ h; exact h) (Or.inl ⟨by rfl, ?_⟩) ?_
      rotate_left
      · (intro w hSw; (try dsimp only at hSw); go_simp; (try (with_reducible rfl)))
      try simp only [Act.put, List.setIfInBounds_toArray, List.set_cons_zero, List.set_cons_succ]
      refine AnyB.takeQ (i := 2) (oi := _) (v := ?_) (by simp only [List.getElem?_toArray, List.getElem?_cons_zero, List.getElem?_cons_succ]; rfl) (by kernel_rfl) (by kernel_rfl) (by kernel_rfl) (by intro _ _ _ h; exact h) (Or.inl ⟨by rfl, ?_⟩) ?_
      rotate_left
      · (intro w hSw; (try dsimp only at hSw); go_simp; (try (with_reducible rfl)))
      try simp only [Act.put, List.setIfInBounds_toArray, List.set_cons_zero, List.set_cons_succ]
      refine AnyB.take (i := 4) (oi := _) (v := ?_) (by simp only [List.getElem?_toArray, List.getElem?_cons_zero, List.getElem?_cons_succ]; rfl) (by kernel_rfl) (by kernel_rfl) (by kernel_rfl) (by kernel_rfl) (by kernel_rfl) (by intro _ _ _ h; exact h) (Or.inl ⟨by rfl, ?_⟩) (by assumption) ?_
      rotate_left
      · (intro w hSw; (try dsimp only at hSw); go_simp; (try (with_reducible rfl)))
      try simp only [Act.put, List.setIfInBounds_toArray, List.set_cons_zero, List.set_cons_succ]
      refine AnyB.takeQ (i := 5) (oi := _) (v := ?_) (by simp only [List.getElem?_toArray, List.getElem?_cons_zero, List.getElem?_cons_succ]; rfl) (by kernel_rfl) (by kernel_rfl) (by kernel_rfl) (by intro _ _ _ h; exact h) (Or.inl ⟨by rfl, ?_⟩) ?_
      rotate_left
      · (intro w hSw; (try dsimp only at hSw); go_simp; (try (with_reducible rfl)))
      try simp only [Act.put, List.setIfInBounds_toArray, List.set_cons_zero, List.set_cons_succ]
      refine AnyB.takeQ (i := 6) (oi := _) (v := ?_) (by simp only [List.getElem?_toArray, List.getElem?_cons_zero, List.getElem?_cons_succ]; rfl) (by kernel_rfl) (by kernel_rfl) (by kernel_rfl) (by intro _ _ _ h; exact h) (Or.inl ⟨by rfl, ?_⟩) ?_
      rotate_left
      · (intro w hSw; (try dsimp only at hSw); go_simp; (try (with_reducible rfl)))
      try simp only [Act.put, List.setIfInBounds_toArray, List.set_cons_zero, List.set_cons_succ]
      refine AnyB.each (rs := [3, 12]) (by kernel_rfl) (by simp) ?_
      refine EachB.cons rfl (fun K hK hB => ?_) ?_
      · skip
        (go_simp; go_at_call 33; refine (C1.out _ (RdM.call H1.out X.out.bel)).mono ?_; rintro e xA ⟨rfl, hxA⟩; replace X := Lib.hid (X.out.call hxA); clear a0 a1 a2 b0 b1 b2; obtain ⟨⟨a0, a1, a2⟩, -⟩ := (HP.out.callB X.out.bel HP.out.lt).c3; obtain ⟨⟨b0, b1, b2⟩, -⟩ := (HQ.out.callB X.out.bel HQ.out.lt).c3; clear hxA; dsimp only)
        refine hK.out _ _ ?_ (fun hHeld1 => ?_)
        · ((try dsimp only); (exact ⟨a0, a1, a2, b0, b1, b2⟩))
        clear hB hK K hHeld0
        refine AnyB.each (rs := [7, 12]) (by kernel_rfl) (by simp) ?_
        refine EachB.cons rfl (fun K hK hB => ?_) ?_
        · skip
          (go_simp; go_at_call 33; refine (C2.out _ (RdM.call H2.out X.out.bel)).mono ?_; rintro e xA ⟨rfl, hxA⟩; replace X := Lib.hid (X.out.call hxA); clear a0 a1 a2 b0 b1 b2; obtain ⟨⟨a0, a1, a2⟩, -⟩ := (HP.out.callB X.out.bel HP.out.lt).c3; obtain ⟨⟨b0, b1, b2⟩, -⟩ := (HQ.out.callB X.out.bel HQ.out.lt).c3; clear hxA; dsimp only)
          refine hK.out _ _ ?_ (fun hHeld2 => ?_)
          · ((try dsimp only); (exact ⟨a0, a1, a2, b0, b1, b2⟩))
          clear hB hK K hHeld1
          refine AnyB.each (rs := [8, 12]) (by kernel_rfl) (by simp) ?_
          refine EachB.cons rfl (fun K hK hB => ?_) ?_
          · skip
            (go_simp; go_at_call 28; refine (CM.out _).mono ?_; rintro e xA ⟨rfl, hxA⟩; replace X := Lib.hid (X.out.call hxA); clear a0 a1 a2 b0 b1 b2; obtain ⟨⟨a0, a1, a2⟩, -⟩ := (HP.out.callB X.out.bel HP.out.lt).c3; obtain ⟨⟨b0, b1, b2⟩, -⟩ := (HQ.out.callB X.out.bel HQ.out.lt).c3; clear hxA; dsimp only)
            refine hK.out _ _ ?_ (fun hHeld3 => ?_)
            · ((try dsimp only); (exact ⟨a0, a1, a2, b0, b1, b2⟩))
            clear hB hK K hHeld2
            refine AnyB.takeQ (i := 9) (oi := _) (v := ?_) (by simp only [List.getElem?_toArray, List.getElem?_cons_zero, List.getElem?_cons_succ]; rfl) (by kernel_rfl) (by kernel_rfl) (by kernel_rfl) (by intro _ _ _ h; exact h) (Or.inl ⟨by rfl, ?_⟩) ?_
            rotate_left
            · (intro w hSw; (try dsimp only at hSw); go_simp; (try (with_reducible rfl)))
            try simp only [Act.put, List.setIfInBounds_toArray, List.set_cons_zero, List.set_cons_succ]
            refine AnyB.takeQ (i := 10) (oi := _) (v := ?_) (by simp only [List.getElem?_toArray, List.getElem?_cons_zero, List.getElem?_cons_succ]; rfl) (by kernel_rfl) (by kernel_rfl) (by kernel_rfl) (by intro _ _ _ h; exact h) (Or.inl ⟨by rfl, ?_⟩) ?_
            rotate_left
            · (intro w hSw; (try dsimp only at hSw); go_simp; (try (with_reducible rfl)))
            try simp only [Act.put, List.setIfInBounds_toArray, List.set_cons_zero, List.set_cons_succ]
            refine AnyB.takeQ (i := 11) (oi := _) (v := ?_) (by simp only [List.getElem?_toArray, List.getElem?_cons_zero, List.getElem?_cons_succ]; rfl) (by kernel_rfl) (by kernel_rfl) (by kernel_rfl) (by intro _ _ _ h; exact h) (Or.inl ⟨by rfl, ?_⟩) ?_
            rotate_left
            · (intro w hSw; (try dsimp only at hSw); go_simp; (try (with_reducible rfl)))
            try simp only [Act.put, List.setIfInBounds_toArray, List.set_cons_zero, List.set_cons_succ]
            refine AnyB.each (rs := [12]) (by kernel_rfl) (by simp) ?_
            refine EachB.cons rfl (fun K hK hB => ?_) ?_
            · skip
              (go_simp; (first | (obtain ⟨gN, hgN⟩ : ∃ g, xA.heap.size = g := ⟨_, rfl⟩; replace X := Lib.hid (X.out.push5 0 0 0 0 0); rw [hgN] at X ⊢; generalize (xA.alloc (.cells #[.int .i64 0, .int .i64 0, .int .i64 0, .int .i64 0, .int .i64 0] 60)) = xB at *; clear hgN) | (obtain ⟨gN, hgN⟩ : ∃ g, wr.heap.size = g := ⟨_, rfl⟩; replace X := Lib.hid (show Sb w.heap.size w ((wr.alloc (.cells #[.int .i64 0, .int .i64 0, .int .i64 0, .int .i64 0, .int .i64 0] 60)).drew) ((wr.heap.size, [.int .i64 0, .int .i64 0, .int .i64 0, .int .i64 0, .int .i64 0]) :: _) from X.out.push5 0 0 0 0 0); rw [hgN] at X ⊢; generalize ((wr.alloc (.cells #[.int .i64 0, .int .i64 0, .int .i64 0, .int .i64 0, .int .i64 0] 60)).drew) = xB at *; clear hgN)); clear a0 a1 a2 b0 b1 b2; obtain ⟨⟨a0, a1, a2⟩, -⟩ := (HP.out.callB X.out.bel HP.out.lt).c3; obtain ⟨⟨b0, b1, b2⟩, -⟩ := (HQ.out.callB X.out.bel HQ.out.lt).c3)
              refine hK.out _ _ ?_ (fun hHeld4 => ?_)
              · ((try dsimp only); (exact ⟨a0, a1, a2, b0, b1, b2⟩))
              clear hB hK K hHeld3
              refine AnyB.each (rs := [13]) (by kernel_rfl) (by simp) ?_
              refine EachB.cons rfl (fun K hK hB => ?_) ?_
              · skip
                (obtain ⟨⟨y0, y1, y2, y3, y4⟩, q0, q1, q2, q3, q4⟩ := X.out.head.c5; go_simp; clear y0 y1 y2 y3 y4 q0 q1 q2 q3 q4; replace X := Lib.hid (((((X.out.set0 0 (.int .i64 qa)).set0 1 (.int .i64 qb)).set0 2 (.int .i64 qc)).set0 3 (.int .i64 qd)).set0 4 (.int .i64 (qe : Int))); clear a0 a1 a2 b0 b1 b2; obtain ⟨⟨a0, a1, a2⟩, -⟩ := (HP.out.callB X.out.bel HP.out.lt).c3; obtain ⟨⟨b0, b1, b2⟩, -⟩ := (HQ.out.callB X.out.bel HQ.out.lt).c3)
                refine hK.out _ _ ?_ (fun hHeld5 => ?_)
                · ((try dsimp only); (exact ⟨a0, a1, a2, b0, b1, b2⟩))
                clear hB hK K hHeld4
                refine AnyB.takeQ (i := 14) (oi := _) (v := ?_) (by simp only [List.getElem?_toArray, List.getElem?_cons_zero, List.getElem?_cons_succ]; rfl) (by kernel_rfl) (by kernel_rfl) (by kernel_rfl) (by intro _ _ _ h; exact h) (Or.inl ⟨by rfl, ?_⟩) ?_
                rotate_left
                · (intro w hSw; (try dsimp only at hSw); go_simp; (try (with_reducible rfl)))
                try simp only [Act.put, List.setIfInBounds_toArray, List.set_cons_zero, List.set_cons_succ]
                refine AnyB.none (by kernel_rfl) ?_ _
                clear a0 a1 a2 b0 b1 b2 C1 C2 CM
                obtain ⟨⟨a0, a1, a2, a3, a4⟩, -⟩ := (X.out.at 0 rfl).c5
                obtain ⟨⟨b0, b1, b2, b3, b4⟩, -⟩ := (X.out.at 1 rfl).c5
                go_wp2_with fail
                clear a0 a1 a2 a3 a4 b0 b1 b2 b3 b4
                refine (CD.out _).mono ?_; rintro e w6 ⟨rfl, hb6⟩
                replace X := Lib.hid ((X.out.call hb6).tail.alloc (.cells #[.int .i64 ea, .int .i64 eb, .int .i64 ec, .int .i64 ed, .int .i64 (ee : Int)] 60))
                clear hb6 CD
                obtain ⟨⟨c0, c1, c2, c3, c4⟩, f0, f1, f2, f3, f4⟩ := X.out.head.c5
                have S9 := Lib.hid (((((X.out.set0 0 (.int .i64 ea)).set0 1 (.int .i64 eb)).set0 2 (.int .i64 ec)).set0 3 (.int .i64 ed)).set0 4 (.int .i64 (ee : Int)))
                clear X
                go_wp2_with fail
                go_roundw
                case rel => exact ⟨k + 1, by omega, by go_num, by rw [← HE.out]; exact S9⟩
                case measure => simp [intOf]; omega
              exact EachB.nil
            exact EachB.nil
          refine EachB.cons rfl (fun K hK hB => ?_) ?_
          · skip
            (go_simp; (first | (obtain ⟨gN, hgN⟩ : ∃ g, xA.heap.size = g := ⟨_, rfl⟩; replace X := Lib.hid (X.out.push5 0 0 0 0 0); rw [hgN] at X ⊢; generalize (xA.alloc (.cells #[.int .i64 0, .int .i64 0, .int .i64 0, .int .i64 0, .int .i64 0] 60)) = xB at *; clear hgN) | (obtain ⟨gN, hgN⟩ : ∃ g, wr.heap.size = g := ⟨_, rfl⟩; replace X := Lib.hid (show Sb w.heap.size w ((wr.alloc (.cells #[.int .i64 0, .int .i64 0, .int .i64 0, .int .i64 0, .int .i64 0] 60)).drew) ((wr.heap.size, [.int .i64 0, .int .i64 0, .int .i64 0, .int .i64 0, .int .i64 0]) :: _) from X.out.push5 0 0 0 0 0); rw [hgN] at X ⊢; generalize ((wr.alloc (.cells #[.int .i64 0, .int .i64 0, .int .i64 0, .int .i64 0, .int .i64 0] 60)).drew) = xB at *; clear hgN)); clear a0 a1 a2 b0 b1 b2; obtain ⟨⟨a0, a1, a2⟩, -⟩ := (HP.out.callB X.out.bel HP.out.lt).c3; obtain ⟨⟨b0, b1, b2⟩, -⟩ := (HQ.out.callB X.out.bel HQ.out.lt).c3)
            refine hK.out _ _ ?_ (fun hHeld6 => ?_)
            · ((try dsimp only); (exact ⟨a0, a1, a2, b0, b1, b2⟩))
            clear hB hK K hHeld2
            refine AnyB.each (rs := [8]) (by kernel_rfl) (by simp) ?_
            refine EachB.cons rfl (fun K hK hB => ?_) ?_
            · skip
              (go_simp; go_at_call 28; refine (CM.out _).mono ?_; rintro e xA ⟨rfl, hxA⟩; replace X := Lib.hid (X.out.call hxA); clear a0 a1 a2 b0 b1 b2; obtain ⟨⟨a0, a1, a2⟩, -⟩ := (HP.out.callB X.out.bel HP.out.lt).c3; obtain ⟨⟨b0, b1, b2⟩, -⟩ := (HQ.out.callB X.out.bel HQ.out.lt).c3; clear hxA; dsimp only)
              refine hK.out _ _ ?_ (fun hHeld7 => ?_)
              · ((try dsimp only); (exact ⟨a0, a1, a2, b0, b1, b2⟩))
              clear hB hK K hHeld6
              refine AnyB.takeQ (i := 9) (oi := _) (v := ?_) (by simp only [List.getElem?_toArray, List.getElem?_cons_zero, List.getElem?_cons_succ]; rfl) (by kernel_rfl) (by kernel_rfl) (by kernel_rfl) (by intro _ _ _ h; exact h) (Or.inl ⟨by rfl, ?_⟩) ?_
              rotate_left
              · (intro w hSw; (try dsimp only at hSw); go_simp; (try (with_reducible rfl)))
              try simp only [Act.put, List.setIfInBounds_toArray, List.set_cons_zero, List.set_cons_succ]
              refine AnyB.takeQ (i := 10) (oi := _) (v := ?_) (by simp only [List.getElem?_toArray, List.getElem?_cons_zero, List.getElem?_cons_succ]; rfl) (by kernel_rfl) (by kernel_rfl) (by kernel_rfl) (by intro _ _ _ h; exact h) (Or.inl ⟨by rfl, ?_⟩) ?_
              rotate_left
              · (intro w hSw; (try dsimp only at hSw); go_simp; (try (with_reducible rfl)))
              try simp only [Act.put, List.setIfInBounds_toArray, List.set_cons_zero, List.set_cons_succ]
              refine AnyB.takeQ (i := 11) (oi := _) (v := ?_) (by simp only [List.getElem?_toArray, List.getElem?_cons_zero, List.getElem?_cons_succ]; rfl) (by kernel_rfl) (by kernel_rfl) (by kernel_rfl) (by intro _ _ _ h; exact h) (Or.inl ⟨by rfl, ?_⟩) ?_
              rotate_left
              · (intro w hSw; (try dsimp only at hSw); go_simp; (try (with_reducible rfl)))
              try simp only [Act.put, List.setIfInBounds_toArray, List.set_cons_zero, List.set_cons_succ]
              refine AnyB.each (rs := [13]) (by kernel_rfl) (by simp) ?_
              refine EachB.cons rfl (fun K hK hB => ?_) ?_
              · skip
                (obtain ⟨⟨y0, y1, y2, y3, y4⟩, q0, q1, q2, q3, q4⟩ := X.out.head.c5; go_simp; clear y0 y1 y2 y3 y4 q0 q1 q2 q3 q4; replace X := Lib.hid (((((X.out.set0 0 (.int .i64 qa)).set0 1 (.int .i64 qb)).set0 2 (.int .i64 qc)).set0 3 (.int .i64 qd)).set0 4 (.int .i64 (qe : Int))); clear a0 a1 a2 b0 b1 b2; obtain ⟨⟨a0, a1, a2⟩, -⟩ := (HP.out.callB X.out.bel HP.out.lt).c3; obtain ⟨⟨b0, b1, b2⟩, -⟩ := (HQ.out.callB X.out.bel HQ.out.lt).c3)
                refine hK.out _ _ ?_ (fun hHeld8 => ?_)
                · ((try dsimp only); (exact ⟨a0, a1, a2, b0, b1, b2⟩))
                clear hB hK K hHeld7
                refine AnyB.takeQ (i := 14) (oi := _) (v := ?_) (by simp only [List.getElem?_toArray, List.getElem?_cons_zero, List.getElem?_cons_succ]; rfl) (by kernel_rfl) (by kernel_rfl) (by kernel_rfl) (by intro _ _ _ h; exact h) (Or.inl ⟨by rfl, ?_⟩) ?_
                rotate_left
                · (intro w hSw; (try dsimp only at hSw); go_simp; (try (with_reducible rfl)))
                try simp only [Act.put, List.setIfInBounds_toArray, List.set_cons_zero, List.set_cons_succ]
                refine AnyB.none (by kernel_rfl) ?_ _
                clear a0 a1 a2 b0 b1 b2 C1 C2 CM
                obtain ⟨⟨a0, a1, a2, a3, a4⟩, -⟩ := (X.out.at 0 rfl).c5
                obtain ⟨⟨b0, b1, b2, b3, b4⟩, -⟩ := (X.out.at 1 rfl).c5
                go_wp2_with fail
                clear a0 a1 a2 a3 a4 b0 b1 b2 b3 b4
                refine (CD.out _).mono ?_; rintro e w6 ⟨rfl, hb6⟩
                replace X := Lib.hid ((X.out.call hb6).tail.alloc (.cells #[.int .i64 ea, .int .i64 eb, .int .i64 ec, .int .i64 ed, .int .i64 (ee : Int)] 60))
                clear hb6 CD
                obtain ⟨⟨c0, c1, c2, c3, c4⟩, f0, f1, f2, f3, f4⟩ := X.out.head.c5
                have S9 := Lib.hid (((((X.out.set0 0 (.int .i64 ea)).set0 1 (.int .i64 eb)).set0 2 (.int .i64 ec)).set0 3 (.int .i64 ed)).set0 4 (.int .i64 (ee : Int)))
                clear X
                go_wp2_with fail
                go_roundw
                case rel => exact ⟨k + 1, by omega, by go_num, by rw [← HE.out]; exact S9⟩
                case measure => simp [intOf]; omega
              exact EachB.nil
            exact EachB.nil
          exact EachB.nil
        refine EachB.cons rfl (fun K hK hB => ?_) ?_
        · skip
          (go_simp; (first | (obtain ⟨gN, hgN⟩ : ∃ g, xA.heap.size = g := ⟨_, rfl⟩; replace X := Lib.hid (X.out.push5 0 0 0 0 0); rw [hgN] at X ⊢; generalize (xA.alloc (.cells #[.int .i64 0, .int .i64 0, .int .i64 0, .int .i64 0, .int .i64 0] 60)) = xB at *; clear hgN) | (obtain ⟨gN, hgN⟩ : ∃ g, wr.heap.size = g := ⟨_, rfl⟩; replace X := Lib.hid (show Sb w.heap.size w ((wr.alloc (.cells #[.int .i64 0, .int .i64 0, .int .i64 0, .int .i64 0, .int .i64 0] 60)).drew) ((wr.heap.size, [.int .i64 0, .int .i64 0, .int .i64 0, .int .i64 0, .int .i64 0]) :: _) from X.out.push5 0 0 0 0 0); rw [hgN] at X ⊢; generalize ((wr.alloc (.cells #[.int .i64 0, .int .i64 0, .int .i64 0, .int .i64 0, .int .i64 0] 60)).drew) = xB at *; clear hgN)); clear a0 a1 a2 b0 b1 b2; obtain ⟨⟨a0, a1, a2⟩, -⟩ := (HP.out.callB X.out.bel HP.out.lt).c3; obtain ⟨⟨b0, b1, b2⟩, -⟩ := (HQ.out.callB X.out.bel HQ.out.lt).c3)
          refine hK.out _ _ ?_ (fun hHeld9 => ?_)
          · ((try dsimp only); (exact ⟨a0, a1, a2, b0, b1, b2⟩))
          clear hB hK K hHeld1
          refine AnyB.each (rs := [7]) (by kernel_rfl) (by simp) ?_
          refine EachB.cons rfl (fun K hK hB => ?_) ?_
          · skip
            (go_simp; go_at_call 33; refine (C2.out _ (RdM.call H2.out X.out.bel)).mono ?_; rintro e xA ⟨rfl, hxA⟩; replace X := Lib.hid (X.out.call hxA); clear a0 a1 a2 b0 b1 b2; obtain ⟨⟨a0, a1, a2⟩, -⟩ := (HP.out.callB X.out.bel HP.out.lt).c3; obtain ⟨⟨b0, b1, b2⟩, -⟩ := (HQ.out.callB X.out.bel HQ.out.lt).c3; clear hxA; dsimp only)
            refine hK.out _ _ ?_ (fun hHeld10 => ?_)
            · ((try dsimp only); (exact ⟨a0, a1, a2, b0, b1, b2⟩))
            clear hB hK K hHeld9
            refine AnyB.each (rs := [8]) (by kernel_rfl) (by simp) ?_
            refine EachB.cons rfl (fun K hK hB => ?_) ?_
            · skip
              (go_simp; go_at_call 28; refine (CM.out _).mono ?_; rintro e xA ⟨rfl, hxA⟩; replace X := Lib.hid (X.out.call hxA); clear a0 a1 a2 b0 b1 b2; obtain ⟨⟨a0, a1, a2⟩, -⟩ := (HP.out.callB X.out.bel HP.out.lt).c3; obtain ⟨⟨b0, b1, b2⟩, -⟩ := (HQ.out.callB X.out.bel HQ.out.lt).c3; clear hxA; dsimp only)
              refine hK.out _ _ ?_ (fun hHeld11 => ?_)
              · ((try dsimp only); (exact ⟨a0, a1, a2, b0, b1, b2⟩))
              clear hB hK K hHeld10
              refine AnyB.takeQ (i := 9) (oi := _) (v := ?_) (by simp only [List.getElem?_toArray, List.getElem?_cons_zero, List.getElem?_cons_succ]; rfl) (by kernel_rfl) (by kernel_rfl) (by kernel_rfl) (by intro _ _ _ h; exact h) (Or.inl ⟨by rfl, ?_⟩) ?_
              rotate_left
              · (intro w hSw; (try dsimp only at hSw); go_simp; (try (with_reducible rfl)))
              try simp only [Act.put, List.setIfInBounds_toArray, List.set_cons_zero, List.set_cons_succ]
              refine AnyB.takeQ (i := 10) (oi := _) (v := ?_) (by simp only [List.getElem?_toArray, List.getElem?_cons_zero, List.getElem?_cons_succ]; rfl) (by kernel_rfl) (by kernel_rfl) (by kernel_rfl) (by intro _ _ _ h; exact h) (Or.inl ⟨by rfl, ?_⟩) ?_
              rotate_left
              · (intro w hSw; (try dsimp only at hSw); go_simp; (try (with_reducible rfl)))
              try simp only [Act.put, List.setIfInBounds_toArray, List.set_cons_zero, List.set_cons_succ]
              refine AnyB.takeQ (i := 11) (oi := _) (v := ?_) (by simp only [List.getElem?_toArray, List.getElem?_cons_zero, List.getElem?_cons_succ]; rfl) (by kernel_rfl) (by kernel_rfl) (by kernel_rfl) (by intro _ _ _ h; exact h) (Or.inl ⟨by rfl, ?_⟩) ?_
              rotate_left
              · (intro w hSw; (try dsimp only at hSw); go_simp; (try (with_reducible rfl)))
              try simp only [Act.put, List.setIfInBounds_toArray, List.set_cons_zero, List.set_cons_succ]
              refine AnyB.each (rs := [13]) (by kernel_rfl) (by simp) ?_
              refine EachB.cons rfl (fun K hK hB => ?_) ?_
              · skip
                (obtain ⟨⟨y0, y1, y2, y3, y4⟩, q0, q1, q2, q3, q4⟩ := X.out.head.c5; go_simp; clear y0 y1 y2 y3 y4 q0 q1 q2 q3 q4; replace X := Lib.hid (((((X.out.set0 0 (.int .i64 qa)).set0 1 (.int .i64 qb)).set0 2 (.int .i64 qc)).set0 3 (.int .i64 qd)).set0 4 (.int .i64 (qe : Int))); clear a0 a1 a2 b0 b1 b2; obtain ⟨⟨a0, a1, a2⟩, -⟩ := (HP.out.callB X.out.bel HP.out.lt).c3; obtain ⟨⟨b0, b1, b2⟩, -⟩ := (HQ.out.callB X.out.bel HQ.out.lt).c3)
                refine hK.out _ _ ?_ (fun hHeld12 => ?_)
                · ((try dsimp only); (exact ⟨a0, a1, a2, b0, b1, b2⟩))
                clear hB hK K hHeld11
                refine AnyB.takeQ (i := 14) (oi := _) (v := ?_) (by simp only [List.getElem?_toArray, List.getElem?_cons_zero, List.getElem?_cons_succ]; rfl) (by kernel_rfl) (by kernel_rfl) (by kernel_rfl) (by intro _ _ _ h; exact h) (Or.inl ⟨by rfl, ?_⟩) ?_
                rotate_left
                · (intro w hSw; (try dsimp only at hSw); go_simp; (try (with_reducible rfl)))
                try simp only [Act.put, List.setIfInBounds_toArray, List.set_cons_zero, List.set_cons_succ]
                refine AnyB.none (by kernel_rfl) ?_ _
                clear a0 a1 a2 b0 b1 b2 C1 C2 CM
                obtain ⟨⟨a0, a1, a2, a3, a4⟩, -⟩ := (X.out.at 0 rfl).c5
                obtain ⟨⟨b0, b1, b2, b3, b4⟩, -⟩ := (X.out.at 1 rfl).c5
                go_wp2_with fail
                clear a0 a1 a2 a3 a4 b0 b1 b2 b3 b4
                refine (CD.out _).mono ?_; rintro e w6 ⟨rfl, hb6⟩
                replace X := Lib.hid ((X.out.call hb6).tail.alloc (.cells #[.int .i64 ea, .int .i64 eb, .int .i64 ec, .int .i64 ed, .int .i64 (ee : Int)] 60))
                clear hb6 CD
                obtain ⟨⟨c0, c1, c2, c3, c4⟩, f0, f1, f2, f3, f4⟩ := X.out.head.c5
                have S9 := Lib.hid (((((X.out.set0 0 (.int .i64 ea)).set0 1 (.int .i64 eb)).set0 2 (.int .i64 ec)).set0 3 (.int .i64 ed)).set0 4 (.int .i64 (ee : Int)))
                clear X
                go_wp2_with fail
                go_roundw
                case rel => exact ⟨k + 1, by omega, by go_num, by rw [← HE.out]; exact S9⟩
                case measure => simp [intOf]; omega
              exact EachB.nil
            exact EachB.nil
          exact EachB.nil
        exact EachB.nil
      refine EachB.cons rfl (fun K hK hB => ?_) ?_
      · skip
        (go_simp; (first | (obtain ⟨gN, hgN⟩ : ∃ g, xA.heap.size = g := ⟨_, rfl⟩; replace X := Lib.hid (X.out.push5 0 0 0 0 0); rw [hgN] at X ⊢; generalize (xA.alloc (.cells #[.int .i64 0, .int .i64 0, .int .i64 0, .int .i64 0, .int .i64 0] 60)) = xB at *; clear hgN) | (obtain ⟨gN, hgN⟩ : ∃ g, wr.heap.size = g := ⟨_, rfl⟩; replace X := Lib.hid (show Sb w.heap.size w ((wr.alloc (.cells #[.int .i64 0, .int .i64 0, .int .i64 0, .int .i64 0, .int .i64 0] 60)).drew) ((wr.heap.size, [.int .i64 0, .int .i64 0, .int .i64 0, .int .i64 0, .int .i64 0]) :: _) from X.out.push5 0 0 0 0 0); rw [hgN] at X ⊢; generalize ((wr.alloc (.cells #[.int .i64 0, .int .i64 0, .int .i64 0, .int .i64 0, .int .i64 0] 60)).drew) = xB at *; clear hgN)); clear a0 a1 a2 b0 b1 b2; obtain ⟨⟨a0, a1, a2⟩, -⟩ := (HP.out.callB X.out.bel HP.out.lt).c3; obtain ⟨⟨b0, b1, b2⟩, -⟩ := (HQ.out.callB X.out.bel HQ.out.lt).c3)
        refine hK.out _ _ ?_ (fun hHeld13 => ?_)
        · ((try dsimp only); (exact ⟨a0, a1, a2, b0, b1, b2⟩))
        clear hB hK K hHeld0
        refine AnyB.each (rs := [3]) (by kernel_rfl) (by simp) ?_
        refine EachB.cons rfl (fun K hK hB => ?_) ?_
        · skip
          (go_simp; go_at_call 33; refine (C1.out _ (RdM.call H1.out X.out.bel)).mono ?_; rintro e xA ⟨rfl, hxA⟩; replace X := Lib.hid (X.out.call hxA); clear a0 a1 a2 b0 b1 b2; obtain ⟨⟨a0, a1, a2⟩, -⟩ := (HP.out.callB X.out.bel HP.out.lt).c3; obtain ⟨⟨b0, b1, b2⟩, -⟩ := (HQ.out.callB X.out.bel HQ.out.lt).c3; clear hxA; dsimp only)
          refine hK.out _ _ ?_ (fun hHeld14 => ?_)
          · ((try dsimp only); (exact ⟨a0, a1, a2, b0, b1, b2⟩))
          clear hB hK K hHeld13
          refine AnyB.each (rs := [7]) (by kernel_rfl) (by simp) ?_
          refine EachB.cons rfl (fun K hK hB => ?_) ?_
          · skip
            (go_simp; go_at_call 33; refine (C2.out _ (RdM.call H2.out X.out.bel)).mono ?_; rintro e xA ⟨rfl, hxA⟩; replace X := Lib.hid (X.out.call hxA); clear a0 a1 a2 b0 b1 b2; obtain ⟨⟨a0, a1, a2⟩, -⟩ := (HP.out.callB X.out.bel HP.out.lt).c3; obtain ⟨⟨b0, b1, b2⟩, -⟩ := (HQ.out.callB X.out.bel HQ.out.lt).c3; clear hxA; dsimp only)
            refine hK.out _ _ ?_ (fun hHeld15 => ?_)
            · ((try dsimp only); (exact ⟨a0, a1, a2, b0, b1, b2⟩))
            clear hB hK K hHeld14
            refine AnyB.each (rs := [8]) (by kernel_rfl) (by simp) ?_
            refine EachB.cons rfl (fun K hK hB => ?_) ?_
            · skip
              (go_simp; go_at_call 28; refine (CM.out _).mono ?_; rintro e xA ⟨rfl, hxA⟩; replace X := Lib.hid (X.out.call hxA); clear a0 a1 a2 b0 b1 b2; obtain ⟨⟨a0, a1, a2⟩, -⟩ := (HP.out.callB X.out.bel HP.out.lt).c3; obtain ⟨⟨b0, b1, b2⟩, -⟩ := (HQ.out.callB X.out.bel HQ.out.lt).c3; clear hxA; dsimp only)
              refine hK.out _ _ ?_ (fun hHeld16 => ?_)
              · ((try dsimp only); (exact ⟨a0, a1, a2, b0, b1, b2⟩))
              clear hB hK K hHeld15
              refine AnyB.takeQ (i := 9) (oi := _) (v := ?_) (by simp only [List.getElem?_toArray, List.getElem?_cons_zero, List.getElem?_cons_succ]; rfl) (by kernel_rfl) (by kernel_rfl) (by kernel_rfl) (by intro _ _ _ h; exact h) (Or.inl ⟨by rfl, ?_⟩) ?_
              rotate_left
              · (intro w hSw; (try dsimp only at hSw); go_simp; (try (with_reducible rfl)))
              try simp only [Act.put, List.setIfInBounds_toArray, List.set_cons_zero, List.set_cons_succ]
              refine AnyB.takeQ (i := 10) (oi := _) (v := ?_) (by simp only [List.getElem?_toArray, List.getElem?_cons_zero, List.getElem?_cons_succ]; rfl) (by kernel_rfl) (by kernel_rfl) (by kernel_rfl) (by intro _ _ _ h; exact h) (Or.inl ⟨by rfl, ?_⟩) ?_
              rotate_left
              · (intro w hSw; (try dsimp only at hSw); go_simp; (try (with_reducible rfl)))
              try simp only [Act.put, List.setIfInBounds_toArray, List.set_cons_zero, List.set_cons_succ]
              refine AnyB.takeQ (i := 11) (oi := _) (v := ?_) (by simp only [List.getElem?_toArray, List.getElem?_cons_zero, List.getElem?_cons_succ]; rfl) (by kernel_rfl) (by kernel_rfl) (by kernel_rfl) (by intro _ _ _ h; exact h) (Or.inl ⟨by rfl, ?_⟩) ?_
              rotate_left
              · (intro w hSw; (try dsimp only at hSw); go_simp; (try (with_reducible rfl)))
              try simp only [Act.put, List.setIfInBounds_toArray, List.set_cons_zero, List.set_cons_succ]
              refine AnyB.each (rs := [13]) (by kernel_rfl) (by simp) ?_
              refine EachB.cons rfl (fun K hK hB => ?_) ?_
              · skip
                (obtain ⟨⟨y0, y1, y2, y3, y4⟩, q0, q1, q2, q3, q4⟩ := X.out.head.c5; go_simp; clear y0 y1 y2 y3 y4 q0 q1 q2 q3 q4; replace X := Lib.hid (((((X.out.set0 0 (.int .i64 qa)).set0 1 (.int .i64 qb)).set0 2 (.int .i64 qc)).set0 3 (.int .i64 qd)).set0 4 (.int .i64 (qe : Int))); clear a0 a1 a2 b0 b1 b2; obtain ⟨⟨a0, a1, a2⟩, -⟩ := (HP.out.callB X.out.bel HP.out.lt).c3; obtain ⟨⟨b0, b1, b2⟩, -⟩ := (HQ.out.callB X.out.bel HQ.out.lt).c3)
                refine hK.out _ _ ?_ (fun hHeld17 => ?_)
                · ((try dsimp only); (exact ⟨a0, a1, a2, b0, b1, b2⟩))
                clear hB hK K hHeld16
                refine AnyB.takeQ (i := 14) (oi := _) (v := ?_) (by simp only [List.getElem?_toArray, List.getElem?_cons_zero, List.getElem?_cons_succ]; rfl) (by kernel_rfl) (by kernel_rfl) (by kernel_rfl) (by intro _ _ _ h; exact h) (Or.inl ⟨by rfl, ?_⟩) ?_
                rotate_left
                · (intro w hSw; (try dsimp only at hSw); go_simp; (try (with_reducible rfl)))
                try simp only [Act.put, List.setIfInBounds_toArray, List.set_cons_zero, List.set_cons_succ]
                refine AnyB.none (by kernel_rfl) ?_ _
                clear a0 a1 a2 b0 b1 b2 C1 C2 CM
                obtain ⟨⟨a0, a1, a2, a3, a4⟩, -⟩ := (X.out.at 0 rfl).c5
                obtain ⟨⟨b0, b1, b2, b3, b4⟩, -⟩ := (X.out.at 1 rfl).c5
                go_wp2_with fail
                clear a0 a1 a2 a3 a4 b0 b1 b2 b3 b4
                refine (CD.out _).mono ?_; rintro e w6 ⟨rfl, hb6⟩
                replace X := Lib.hid ((X.out.call hb6).tail.alloc (.cells #[.int .i64 ea, .int .i64 eb, .int .i64 ec, .int .i64 ed, .int .i64 (ee : Int)] 60))
                clear hb6 CD
                obtain ⟨⟨c0, c1, c2, c3, c4⟩, f0, f1, f2, f3, f4⟩ := X.out.head.c5
                have S9 := Lib.hid (((((X.out.set0 0 (.int .i64 ea)).set0 1 (.int .i64 eb)).set0 2 (.int .i64 ec)).set0 3 (.int .i64 ed)).set0 4 (.int .i64 (ee : Int)))
                clear X
                go_wp2_with fail
                go_roundw
                case rel => exact ⟨k + 1, by omega, by go_num, by rw [← HE.out]; exact S9⟩
                case measure => simp [intOf]; omega
              exact EachB.nil
            exact EachB.nil
          exact EachB.nil
        exact EachB.nil
      exact EachB.nil
    · have i1 : ¬ (k : Int) < (m : Int) := by omega
      obtain rfl : k = m := by omega
      obtain ⟨D, hD⟩ : ∃ D, D = G k := ⟨_, rfl⟩
      have S9 := hS.out
      rw [← hD] at S9
      have HD := Lib.hid hD
      clear hS hD
      obtain ⟨⟨da, db, dc, dd⟩, de⟩ := D
      have hS := Lib.hid S9
      clear S9
      obtain ⟨⟨b0, b1, b2, b3, b4⟩, g0, g1, g2, g3, g4⟩ := hS.out.head.c5
      obtain ⟨⟨c0, c1, c2, c3, c4⟩, f0, f1, f2, f3, f4⟩ := (hS.out.at 1 rfl).c5
      have S9 := Lib.hid (((((hS.out.set1 0 (.int .i64 da)).set1 1 (.int .i64 db)).set1 2 (.int .i64 dc)).set1 3 (.int .i64 dd)).set1 4 (.int .i64 (de : Int)))
      clear hS
      go_wp2_with fail
      clear b0 b1 b2 b3 b4 g0 g1 g2 g3 g4 c0 c1 c2 c3 c4 f0 f1 f2 f3 f4
      generalize ((((wr.setCell ⟨w.heap.size, 0, none⟩ (.int .i64 da)).setCell ⟨w.heap.size, 1, none⟩ (.int .i64 db)).setCell ⟨w.heap.size, 2, none⟩ (.int .i64 dc)).setCell ⟨w.heap.size, 3, none⟩ (.int .i64 dd)).setCell ⟨w.heap.size, 4, none⟩ (.int .i64 (de : Int)) = w9 at *
      obtain ⟨⟨c0, c1, c2, c3, c4⟩, _⟩ := (S9.out.at 1 rfl).c5
      refine bodyPost_ret (v := .tuple #[.agg #[.int .i64 da, .int .i64 db, .int .i64 dc, .int .i64 dd, .int .i64 (de : Int)], .bool true]) (by simp [results, Try.results32, go_sem, c0, c1, c2, c3, c4]) rfl ⟨by rw [← HD.out], S9.out.bel⟩
end Go.Proofs.Yteimcfbliigjmaa
