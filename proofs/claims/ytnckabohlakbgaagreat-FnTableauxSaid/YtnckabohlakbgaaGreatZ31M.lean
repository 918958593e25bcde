/- The program's flipped states, the source of a state under a gate on two qubits, the identity matrix. -/
import Derived.Test.YtnckabohlakbgaaGreatZ30Ft3
import Derived.Test.YtnckabohlakbgaaGreatZ27Dy16
import Derived.Test.YtnckabohlakbgaaGreatZ14M
import Derived.Test.YtnckabohlakbgaaGreatZ05M
import Derived.BigRegion
import Derived.BigQuiet
import Derived.Shelf.Abstract
import Derived.Test.YtnckabohlakbgaaGreatZ06Brk
import Derived.Deep.DeepCutAuto
namespace Go.Proofs.YtnckabohlakbgaaGreat
set_option linter.unusedSimpArgs false
set_option linter.unusedVariables false
set_option linter.unnecessarySimpa false
set_option maxRecDepth 200000
open Go.ChangeShapes Go.WideShapes Go.ChangeAt Go.RowKit

theorem flp_lt {n s q : Nat} (hn : n ≤ 5) (hs : s < 32) : flp n s q < 32 := by
  unfold flp
  refine Nat.xor_lt_two_pow (n := 5) hs ?_
  exact Nat.pow_lt_pow_right (by omega) (by omega)
theorem impl_flipped_ok (n s q : Nat) (w : World) (hn : n ≤ 5) (hs : s < 32) (hq : q < n) :
    Calls Tryz.prog 105 #[.int .i64 (n : Int), .int .i64 (s : Int), .int .i64 (q : Int)] w fun r w' => r = .returned (.int .i64 (flp n s q : Int)) ∧ w = w' := by
  obtain ⟨r, hr⟩ : ∃ r, r = n - 1 - q := ⟨_, rfl⟩
  have h1 : (n : Int) - 1 - (q : Int) = (r : Int) := by omega
  unfold flp
  rw [← hr]
  have hrl : r ≤ 4 := by omega
  clear hr
  have e0 : IntKind.i64.wrap ((n : Int) - 1) = (n : Int) - 1 := IntWalk.i64_in _ (by omega)
  have e1 : IntKind.i64.wrap (r : Int) = (r : Int) := IntWalk.i64_in _ (by omega)
  have hd : 2 ^ r ≤ 16 := by
    have := Nat.pow_le_pow_right (n := 2) (by omega) hrl
    exact this
  obtain ⟨d, hdd⟩ : ∃ d, d = 2 ^ r := ⟨_, rfl⟩
  have hw : IntKind.i64.wrap ((2 : Int) ^ r) = (d : Int) := by
    rw [show ((2 : Int) ^ r) = ((2 ^ r : Nat) : Int) by push_cast; rfl, ← hdd]
    exact IntWalk.i64_in _ (by omega)
  rw [← hdd] at hd ⊢
  have bx := bits_xor s d (by omega) (by omega)
  obtain ⟨t, ht⟩ : ∃ t, t = s ^^^ d := ⟨_, rfl⟩
  rw [← ht] at bx ⊢
  have m0 : (0 : Int) ≤ r := by omega
  clear hdd ht
  go_enter Tryz.func105, Tryz.ntmps105
  go_wp2_with fail
  go_ret
  exact ⟨rfl, rfl⟩
set_option maxHeartbeats 4000000 in
theorem impl_comesFrom_ok (n k a b s : Nat) (w : World) (hn : n ≤ 5) (hs : s < 32) (ha : a < n) (hb : b < n) :
    Calls Tryz.prog 104 #[.int .i64 (n : Int), .agg #[.int .i64 (k : Int), .int .i64 (a : Int), .int .i64 (b : Int)], .int .i64 (s : Int)] w fun r w' => r = .returned (.int .i64 (srcN n k a b s : Int)) ∧ Below w.heap.size w w' := by
  have C1 := Lib.hid (fun W => impl_bitOf_ok n s a W (by omega) (by omega) ha)
  have C2 := Lib.hid (fun W => impl_bitOf_ok n s b W (by omega) (by omega) hb)
  have D1 := Lib.hid (fun W => impl_flipped_ok n s b W hn hs hb)
  have D2 := Lib.hid (fun W => impl_flipped_ok n s a W hn hs ha)
  have D3 := Lib.hid (fun W => impl_flipped_ok n (flp n s a) b W hn (flp_lt hn hs) hb)
  obtain ⟨r, hr⟩ : ∃ r, r = srcN n k a b s := ⟨_, rfl⟩
  unfold srcN at hr
  have HR := Lib.hid hr
  rw [show srcN n k a b s = r from hr.symm]
  clear hr
  have la := qb_le n s a
  have lb := qb_le n s b
  obtain ⟨ai, hai⟩ : ∃ x : Int, x = (a : Int) := ⟨_, rfl⟩
  obtain ⟨bi, hbi⟩ : ∃ x : Int, x = (b : Int) := ⟨_, rfl⟩
  rw [← hai] at C1 D2 ⊢
  rw [← hbi] at C2 D1 D3 ⊢
  clear hai hbi
  generalize qb n s a = qa at *
  generalize qb n s b = qc at *
  generalize flp n (flp n s a) b = f3 at *
  generalize flp n s a = f2 at *
  generalize flp n s b = f1 at *
  have X := Lib.hid ((Sb.nil w).push [.int .i64 (k : Int), .int .i64 ai, .int .i64 bi] 66 rfl)
  have hB := X.out.bel
  by_cases h9 : k = 9
  · subst h9
    by_cases h1 : qa = 1
    · subst h1
      have hr9 : r = f1 := by rw [HR.out]; simp
      obtain ⟨⟨a0, a1, a2⟩, -⟩ := X.out.head.c3
      clear HR la lb
      subst hr9
      go_enter Tryz.func104, Tryz.ntmps104
      go_wp2_with fail
      go_quiet ((first | (go_at_call_of 54 ai; exact quiet_left (C1.out _)) | (go_at_call_of 54 bi; exact quiet_left (C2.out _))))
      go_wp2_with fail
      refine (D1.out _).mono ?_; rintro e w2 ⟨rfl, rfl⟩
      go_wp2_with fail
      go_ret
      exact ⟨rfl, belo⟩
    · obtain rfl : qa = 0 := by omega
      have hr9 : r = s := by rw [HR.out]; simp
      obtain ⟨⟨a0, a1, a2⟩, -⟩ := X.out.head.c3
      clear HR la lb h1
      subst hr9
      go_enter Tryz.func104, Tryz.ntmps104
      go_wp2_with fail
      go_quiet ((first | (go_at_call_of 54 ai; exact quiet_left (C1.out _)) | (go_at_call_of 54 bi; exact quiet_left (C2.out _))))
      go_wp2_with fail
      go_ret
      exact ⟨rfl, belo⟩
  · have i9 : ¬ (k : Int) = 9 := by omega
    by_cases h11 : k = 11
    · subst h11
      by_cases h1 : qa = qc
      · have hr9 : r = s := by rw [HR.out, if_neg (by omega), if_neg (by omega)]
        obtain ⟨⟨a0, a1, a2⟩, -⟩ := X.out.head.c3
        subst h1
        clear HR la lb h9 i9
        subst hr9
        go_enter Tryz.func104, Tryz.ntmps104
        go_wp2_with fail
        go_quiet ((first | (go_at_call_of 54 ai; exact quiet_left (C1.out _)) | (go_at_call_of 54 bi; exact quiet_left (C2.out _))))
        go_wp2_with fail
        go_ret
        exact ⟨rfl, belo⟩
      · have hr9 : r = f3 := by rw [HR.out, if_neg (by omega), if_pos (by omega)]
        obtain ⟨⟨a0, a1, a2⟩, -⟩ := X.out.head.c3
        have hc : (qa = 0 ∧ qc = 1) ∨ (qa = 1 ∧ qc = 0) := by omega
        clear HR la lb h9 i9 h1
        subst hr9
        rcases hc with ⟨rfl, rfl⟩ | ⟨rfl, rfl⟩
        all_goals
          go_enter Tryz.func104, Tryz.ntmps104
          go_wp2_with fail
          go_quiet ((first | (go_at_call_of 54 ai; exact quiet_left (C1.out _)) | (go_at_call_of 54 bi; exact quiet_left (C2.out _))))
          go_wp2_with fail
          go_quiet ((first | (go_at_call_of 105 ai; exact quiet_add_left (D2.out _)) | (go_at_call_of 105 bi; exact quiet_add_left (D3.out _))))
          go_wp2_with fail
          go_ret
          exact ⟨rfl, belo⟩
    · have i11 : ¬ (k : Int) = 11 := by omega
      have hr9 : r = s := by rw [HR.out, if_neg (by omega), if_neg (by omega)]
      obtain ⟨⟨a0, a1, a2⟩, -⟩ := X.out.head.c3
      clear HR la lb h9 h11
      subst hr9
      go_enter Tryz.func104, Tryz.ntmps104
      go_wp2_with fail
      go_quiet ((first | (go_at_call_of 54 ai; exact quiet_left (C1.out _)) | (go_at_call_of 54 bi; exact quiet_left (C2.out _))))
      go_wp2_with fail
      go_ret
      exact ⟨rfl, belo⟩
def idD (i j : Nat) : Dy := if i = j then whl 1 else whl 0
set_option maxHeartbeats 400000 in
theorem impl_IdCell_ok (i j : Nat) (w : World) : Calls Tryz.prog 81 #[.int .i64 (i : Int), .int .i64 (j : Int)] w fun e w' => e = .returned (.tuple #[(idD i j).v, .bool true]) ∧ Below w.heap.size w w' := by
  have X := Lib.hid ((Sb.nil w).push [.int .i64 0, .int .i64 0, .int .i64 0, .int .i64 0, .int .i64 0] 86 rfl)
  have CW := Lib.hid (fun W : World => (show Calls Tryz.prog 82 #[.int .i64 1] W (fun r w' => r = .returned (.agg #[.int .i64 1, .int .i64 0, .int .i64 0, .int .i64 0, .int .i64 0]) ∧ Below W.heap.size W w') from impl_whole_ok 1 W))
  by_cases h : i = j
  · have e : (idD i j).v = .agg #[.int .i64 1, .int .i64 0, .int .i64 0, .int .i64 0, .int .i64 0] := by rw [show idD i j = whl 1 from if_pos h]; rfl
    rw [e]
    have h2 : (i : Int) = (j : Int) := by omega
    subst h
    clear h2 e
    go_enter Tryz.func81, Tryz.ntmps81
    go_wp2_with fail
    refine (CW.out _).mono ?_; rintro r w1 ⟨rfl, hb⟩
    replace X := Lib.hid (X.out.call hb)
    clear hb
    obtain ⟨⟨o0, o1, o2, o3, o4⟩, f0, f1, f2, f3, f4⟩ := X.out.head.c5
    have X9 := Lib.hid (((((X.out.set0 0 (.int .i64 1)).set0 1 (.int .i64 0)).set0 2 (.int .i64 0)).set0 3 (.int .i64 0)).set0 4 (.int .i64 0))
    obtain ⟨⟨c0, c1, c2, c3, c4⟩, -⟩ := X9.out.head.c5
    go_wp2_with fail
    exact bodyPost_ret (v := .tuple #[.agg #[.int .i64 1, .int .i64 0, .int .i64 0, .int .i64 0, .int .i64 0], .bool true]) (by simp [results, Tryz.results81, go_sem, c0, c1, c2, c3, c4]) rfl ⟨rfl, X9.out.bel⟩
  · have e : (idD i j).v = .agg #[.int .i64 0, .int .i64 0, .int .i64 0, .int .i64 0, .int .i64 0] := by rw [show idD i j = whl 0 from if_neg h]; rfl
    rw [e]
    have h2 : ¬ (i : Int) = (j : Int) := by omega
    have hB := X.out.bel
    go_enter Tryz.func81, Tryz.ntmps81
    go_wp2_with fail
    exact bodyPost_ret (v := .tuple #[.agg #[.int .i64 0, .int .i64 0, .int .i64 0, .int .i64 0, .int .i64 0], .bool true]) (by simp [results, Tryz.results81, go_sem]) rfl ⟨rfl, belo⟩
set_option maxHeartbeats 400000 in
theorem impl_IdentityMatrix_ok (m : Nat) (hm : MDim m) (w : World) : Calls Tryz.prog 46 #[.int .i64 (m : Int)] w fun e w' => MatOwn w m m idD e w' := by
  have S0 := Lib.hid ((Sb.nil w).push [.int .i64 0, .int .i64 0, .slice none 0 0] 47 rfl)
  have eg := enters_of Tryz.func81 (by kernel_rfl) rfl
  have CMX := Lib.hid (fun (W : World) => impl_matrixOf_ok m m hm hm 81 #[] idD eg W (fun V i j _ _ _ => (show Calls Tryz.prog 81 #[.int .i64 (i : Int), .int .i64 (j : Int)] V _ from impl_IdCell_ok i j V)))
  clear eg hm
  generalize idD = F at *
  go_enter Tryz.func46, Tryz.ntmps46
  go_wp2_with fail
  refine (CMX.out _).mono ?_; rintro e xA ⟨ar, capr, rfl, hO, hxA⟩
  have hl := S0.out.lt
  have O := Lib.hid (OwnE.le hO (show w.heap.size + 1 ≤ _ by simp))
  replace S0 := Lib.hid (S0.out.call hxA)
  clear CMX hO hxA hl
  obtain ⟨⟨c0, c1, c2⟩, f0, f1, f2⟩ := S0.out.head.c3
  have X9 := Lib.hid (((S0.out.set0 0 (.int .i64 (m : Int))).set0 1 (.int .i64 (m : Int))).set0 2 (.slice ar (m * m) capr))
  obtain ⟨⟨z0, z1, z2⟩, -⟩ := X9.out.head.c3
  go_wp2_with fail
  exact bodyPost_ret (v := .tuple #[.agg #[.int .i64 (m : Int), .int .i64 (m : Int), .slice ar (m * m) capr], .bool true]) (by simp [results, Tryz.results46, go_sem, z0, z1, z2]) rfl ⟨ar, capr, rfl, OwnE.le (RdM.set (RdM.set (RdM.set O.out (by dsimp only; omega) _) (by dsimp only; omega) _) (by dsimp only; omega) _) (by omega), X9.out.bel⟩
end Go.Proofs.YtnckabohlakbgaaGreat
namespace Go.Proofs.YtnckabohlakbgaaGreat
set_option linter.unusedSimpArgs false
set_option linter.unusedVariables false
set_option linter.unnecessarySimpa false
set_option maxRecDepth 200000
open Go.ChangeShapes Go.WideShapes Go.ChangeAt Go.RowKit

theorem gmD_w {n a b i : Nat} : gmD n 12 a b i i = phs 1 := by unfold gmD; simp
theorem gmD_w0 {n a b i j : Nat} (h : i ≠ j) : gmD n 12 a b i j = whl 0 := by unfold gmD; simp [h]
theorem gmD_two {n k a b i : Nat} (h9 : 9 ≤ k) (h11 : k ≤ 11) : gmD n k a b i (srcN n k a b i) = phs (4 * (if k = 10 ∧ qb n i a = 1 ∧ qb n i b = 1 then 1 else 0)) := by
  unfold gmD; rw [if_neg (by omega), if_pos h9, if_pos rfl]
theorem gmD_two0 {n k a b i j : Nat} (h9 : 9 ≤ k) (h11 : k ≤ 11) (h : srcN n k a b i ≠ j) : gmD n k a b i j = whl 0 := by
  unfold gmD; rw [if_neg (by omega), if_pos h9, if_neg h]
theorem gmD_one {n k a b i j : Nat} (h6 : k ≤ 6) (h : i = j ∨ flp n i a = j) : gmD n k a b i j = entD k (qb n i a) (qb n j a) := by
  unfold gmD; rw [if_neg (by omega), if_neg (by omega), if_pos h]
theorem gmD_one0 {n k a b i j : Nat} (h6 : k ≤ 6) (h : ¬ (i = j ∨ flp n i a = j)) : gmD n k a b i j = whl 0 := by
  unfold gmD; rw [if_neg (by omega), if_neg (by omega), if_neg h]
theorem whl0_v : (whl 0).v = .agg #[.int .i64 0, .int .i64 0, .int .i64 0, .int .i64 0, .int .i64 0] := rfl
set_option maxHeartbeats 2000000 in
theorem impl_GateCell_ok (n k a b i j gp np : Nat) (w : World) (hn1 : 1 ≤ n) (hn : n ≤ 5) (h : GtOk n k a b) (hi : i < 32) (hj : j < 32)
    (hp : Bw w gp [.int .i64 (k : Int), .int .i64 (a : Int), .int .i64 (b : Int)]) (hq : Bw w np [.int .i64 (n : Int)]) :
    Calls Tryz.prog 103 #[.int .i64 (i : Int), .int .i64 (j : Int), .pointer (some ⟨gp, 0, none⟩), .pointer (some ⟨np, 0, none⟩)] w fun e w' =>
      e = .returned (.tuple #[(gmD n k a b i j).v, .bool true]) ∧ Below w.heap.size w w' := by
  have hk := h.kind
  have la := h.la
  have lb := h.lb
  have hb0 : Below w.heap.size w (w.alloc (.cells #[.int .i64 0, .int .i64 0, .int .i64 0, .int .i64 0, .int .i64 0] 86)) := belo
  have X := Lib.hid ((Sb.nil w).push [.int .i64 0, .int .i64 0, .int .i64 0, .int .i64 0, .int .i64 0] 86 rfl)
  have P0 := Lib.hid (hp.call hb0)
  have N0 := Lib.hid (hq.call hb0)
  clear hp hq hb0 h
  by_cases h12 : k = 12
  · subst h12
    obtain ⟨⟨a0, a1, a2⟩, -⟩ := P0.out.c3
    by_cases hij : i = j
    · subst hij
      rw [gmD_w]
      have CP := Lib.hid (fun W => impl_phase_ok 1 W (by omega))
      obtain ⟨D, hD⟩ : ∃ D, D = phs 1 := ⟨_, rfl⟩
      rw [← hD] at CP ⊢
      obtain ⟨⟨da, db, dc, dd⟩, de⟩ := D
      dsimp only [Dy.v] at CP ⊢
      clear hk la lb hD
      go_enter Tryz.func103, Tryz.ntmps103
      go_wp2_with fail
      clear a0 a1 a2
      refine (CP.out _).mono ?_; rintro r w1 ⟨rfl, hb⟩
      replace X := Lib.hid (X.out.call hb)
      clear hb CP
      obtain ⟨⟨o0, o1, o2, o3, o4⟩, f0, f1, f2, f3, f4⟩ := X.out.head.c5
      have X9 := Lib.hid (((((X.out.set0 0 (.int .i64 da)).set0 1 (.int .i64 db)).set0 2 (.int .i64 dc)).set0 3 (.int .i64 dd)).set0 4 (.int .i64 (de : Int)))
      go_wp2_with fail
      obtain ⟨⟨c0, c1, c2, c3, c4⟩, -⟩ := X9.out.head.c5
      exact bodyPost_ret (v := .tuple #[.agg #[.int .i64 da, .int .i64 db, .int .i64 dc, .int .i64 dd, .int .i64 (de : Int)], .bool true]) (by simp [results, Tryz.results103, go_sem, c0, c1, c2, c3, c4]) rfl ⟨rfl, X9.out.bel⟩
    · rw [gmD_w0 hij, whl0_v]
      have i1 : ¬ (i : Int) = (j : Int) := by omega
      have hB := X.out.bel
      clear hk la lb
      go_enter Tryz.func103, Tryz.ntmps103
      go_wp2_with fail
      exact bodyPost_ret (v := .tuple #[.agg #[.int .i64 0, .int .i64 0, .int .i64 0, .int .i64 0, .int .i64 0], .bool true]) (by simp [results, Tryz.results103, go_sem]) rfl ⟨rfl, belo⟩
  · have i12 : ¬ (k : Int) = 12 := by omega
    obtain ⟨⟨a0, a1, a2⟩, -⟩ := P0.out.c3
    have n0 := N0.out.cs 0 _ rfl
    by_cases h9 : 9 ≤ k
    · have hTw : decide (9 ≤ (k : Int) ∧ (k : Int) ≤ 11) = true := decide_eq_true (by omega)
      have HT := Lib.hid hTw
      have CC := Lib.hid (fun W => impl_comesFrom_ok n k a b i W hn hi la lb)
      by_cases hij : srcN n k a b i = j
      · subst hij
        rw [gmD_two h9 (by omega)]
        have C1 := Lib.hid (fun W => impl_bitOf_ok n i a W (by omega) (by omega) la)
        have C2 := Lib.hid (fun W => impl_bitOf_ok n i b W (by omega) (by omega) lb)
        have CP := Lib.hid (fun W => impl_phase_ok (4 * (if k = 10 ∧ qb n i a = 1 ∧ qb n i b = 1 then 1 else 0)) W (by split <;> omega))
        have l1 := qb_le n i a
        have l2 := qb_le n i b
        generalize qb n i a = qa at *
        generalize qb n i b = qc at *
        generalize srcN n k a b i = s at *
        obtain ⟨D, hD⟩ : ∃ D, D = phs (4 * (if k = 10 ∧ qa = 1 ∧ qc = 1 then 1 else 0)) := ⟨_, rfl⟩
        rw [← hD] at CP ⊢
        obtain ⟨⟨da, db, dc, dd⟩, de⟩ := D
        dsimp only [Dy.v] at CP ⊢
        obtain ⟨ai, hai⟩ : ∃ x : Int, x = (a : Int) := ⟨_, rfl⟩
        obtain ⟨bi, hbi⟩ : ∃ x : Int, x = (b : Int) := ⟨_, rfl⟩
        rw [← hai] at CC C1 P0 a1
        rw [← hbi] at CC C2 P0 a2
        clear hk la lb hD hTw h9 h12 hai hbi
        go_enter Tryz.func103, Tryz.ntmps103
        go_wp2_with fail
        generalize (w.alloc (.cells #[.int .i64 0, .int .i64 0, .int .i64 0, .int .i64 0, .int .i64 0] 86)) = w1 at *
        refine (impl_isTwo_any _ _).mono ?_; rintro r w2 ⟨rfl, rfl⟩; rw [HT.out]
        go_wp2_with fail
        clear a0 a1 a2 n0
        refine (CC.out _).mono ?_; rintro r w2 ⟨rfl, hb⟩
        replace X := Lib.hid (X.out.call hb); replace P0 := Lib.hid (P0.out.call hb); replace N0 := Lib.hid (N0.out.call hb)
        clear hb CC
        obtain ⟨⟨a0, a1, a2⟩, -⟩ := P0.out.c3
        have n0 := N0.out.cs 0 _ rfl
        by_cases h10 : k = 10
        · subst h10
          rcases (show qa = 0 ∨ qa = 1 by omega) with rfl | rfl
          · rw [if_neg (by omega)] at CP
            have CQ := Lib.hid (show ∀ W : World, Calls Tryz.prog 50 #[.int .i64 0] W (fun r w' => r = .returned (.agg #[.int .i64 da, .int .i64 db, .int .i64 dc, .int .i64 dd, .int .i64 (de : Int)]) ∧ Below W.heap.size W w') from CP.out)
            have CS := Lib.hid (show ∀ W : World, Calls Tryz.prog 89 #[.bool false] W (fun r w' => r = .returned (.int .i64 0) ∧ Below W.heap.size W w') from fun W => impl_small_ok false W)
            clear CP
            go_wp2_with fail
            refine (C1.out _).mono ?_; rintro r w5 ⟨rfl, rfl⟩
            go_wp2_with fail
            refine (CS.out _).mono ?_; rintro r w3 ⟨rfl, hb⟩
            replace X := Lib.hid (X.out.call hb)
            clear hb a0 a1 a2 n0
            go_wp2_with fail
            refine (CQ.out _).mono ?_; rintro r w4 ⟨rfl, hb⟩
            replace X := Lib.hid (X.out.call hb)
            clear hb
            obtain ⟨⟨o0, o1, o2, o3, o4⟩, f0, f1, f2, f3, f4⟩ := X.out.head.c5
            have X9 := Lib.hid (((((X.out.set0 0 (.int .i64 da)).set0 1 (.int .i64 db)).set0 2 (.int .i64 dc)).set0 3 (.int .i64 dd)).set0 4 (.int .i64 (de : Int)))
            go_wp2_with fail
            obtain ⟨⟨c0, c1, c2, c3, c4⟩, -⟩ := X9.out.head.c5
            exact bodyPost_ret (v := .tuple #[.agg #[.int .i64 da, .int .i64 db, .int .i64 dc, .int .i64 dd, .int .i64 (de : Int)], .bool true]) (by simp [results, Tryz.results103, go_sem, c0, c1, c2, c3, c4]) rfl ⟨rfl, X9.out.bel⟩
          · rcases (show qc = 0 ∨ qc = 1 by omega) with rfl | rfl
            · rw [if_neg (by omega)] at CP
              have CQ := Lib.hid (show ∀ W : World, Calls Tryz.prog 50 #[.int .i64 0] W (fun r w' => r = .returned (.agg #[.int .i64 da, .int .i64 db, .int .i64 dc, .int .i64 dd, .int .i64 (de : Int)]) ∧ Below W.heap.size W w') from CP.out)
              have CS := Lib.hid (show ∀ W : World, Calls Tryz.prog 89 #[.bool false] W (fun r w' => r = .returned (.int .i64 0) ∧ Below W.heap.size W w') from fun W => impl_small_ok false W)
              clear CP
              go_wp2_with fail
              refine (C1.out _).mono ?_; rintro r w5 ⟨rfl, rfl⟩
              go_wp2_with fail
              refine (C2.out _).mono ?_; rintro r w5 ⟨rfl, rfl⟩
              go_wp2_with fail
              refine (CS.out _).mono ?_; rintro r w3 ⟨rfl, hb⟩
              replace X := Lib.hid (X.out.call hb)
              clear hb a0 a1 a2 n0
              go_wp2_with fail
              refine (CQ.out _).mono ?_; rintro r w4 ⟨rfl, hb⟩
              replace X := Lib.hid (X.out.call hb)
              clear hb
              obtain ⟨⟨o0, o1, o2, o3, o4⟩, f0, f1, f2, f3, f4⟩ := X.out.head.c5
              have X9 := Lib.hid (((((X.out.set0 0 (.int .i64 da)).set0 1 (.int .i64 db)).set0 2 (.int .i64 dc)).set0 3 (.int .i64 dd)).set0 4 (.int .i64 (de : Int)))
              go_wp2_with fail
              obtain ⟨⟨c0, c1, c2, c3, c4⟩, -⟩ := X9.out.head.c5
              exact bodyPost_ret (v := .tuple #[.agg #[.int .i64 da, .int .i64 db, .int .i64 dc, .int .i64 dd, .int .i64 (de : Int)], .bool true]) (by simp [results, Tryz.results103, go_sem, c0, c1, c2, c3, c4]) rfl ⟨rfl, X9.out.bel⟩
            · rw [if_pos ⟨rfl, rfl, rfl⟩] at CP
              have CQ := Lib.hid (show ∀ W : World, Calls Tryz.prog 50 #[.int .i64 4] W (fun r w' => r = .returned (.agg #[.int .i64 da, .int .i64 db, .int .i64 dc, .int .i64 dd, .int .i64 (de : Int)]) ∧ Below W.heap.size W w') from CP.out)
              have CS := Lib.hid (show ∀ W : World, Calls Tryz.prog 89 #[.bool true] W (fun r w' => r = .returned (.int .i64 1) ∧ Below W.heap.size W w') from fun W => impl_small_ok true W)
              clear CP
              go_wp2_with fail
              refine (C1.out _).mono ?_; rintro r w5 ⟨rfl, rfl⟩
              go_wp2_with fail
              refine (C2.out _).mono ?_; rintro r w5 ⟨rfl, rfl⟩
              go_wp2_with fail
              refine (CS.out _).mono ?_; rintro r w3 ⟨rfl, hb⟩
              replace X := Lib.hid (X.out.call hb)
              clear hb a0 a1 a2 n0
              go_wp2_with fail
              refine (CQ.out _).mono ?_; rintro r w4 ⟨rfl, hb⟩
              replace X := Lib.hid (X.out.call hb)
              clear hb
              obtain ⟨⟨o0, o1, o2, o3, o4⟩, f0, f1, f2, f3, f4⟩ := X.out.head.c5
              have X9 := Lib.hid (((((X.out.set0 0 (.int .i64 da)).set0 1 (.int .i64 db)).set0 2 (.int .i64 dc)).set0 3 (.int .i64 dd)).set0 4 (.int .i64 (de : Int)))
              go_wp2_with fail
              obtain ⟨⟨c0, c1, c2, c3, c4⟩, -⟩ := X9.out.head.c5
              exact bodyPost_ret (v := .tuple #[.agg #[.int .i64 da, .int .i64 db, .int .i64 dc, .int .i64 dd, .int .i64 (de : Int)], .bool true]) (by simp [results, Tryz.results103, go_sem, c0, c1, c2, c3, c4]) rfl ⟨rfl, X9.out.bel⟩
        · have i10 : ¬ (k : Int) = 10 := by omega
          rw [if_neg (by omega)] at CP
          have CQ := Lib.hid (show ∀ W : World, Calls Tryz.prog 50 #[.int .i64 0] W (fun r w' => r = .returned (.agg #[.int .i64 da, .int .i64 db, .int .i64 dc, .int .i64 dd, .int .i64 (de : Int)]) ∧ Below W.heap.size W w') from CP.out)
          have CS := Lib.hid (show ∀ W : World, Calls Tryz.prog 89 #[.bool false] W (fun r w' => r = .returned (.int .i64 0) ∧ Below W.heap.size W w') from fun W => impl_small_ok false W)
          clear CP
          go_wp2_with fail
          refine (CS.out _).mono ?_; rintro r w3 ⟨rfl, hb⟩
          replace X := Lib.hid (X.out.call hb)
          clear hb a0 a1 a2 n0
          go_wp2_with fail
          refine (CQ.out _).mono ?_; rintro r w4 ⟨rfl, hb⟩
          replace X := Lib.hid (X.out.call hb)
          clear hb
          obtain ⟨⟨o0, o1, o2, o3, o4⟩, f0, f1, f2, f3, f4⟩ := X.out.head.c5
          have X9 := Lib.hid (((((X.out.set0 0 (.int .i64 da)).set0 1 (.int .i64 db)).set0 2 (.int .i64 dc)).set0 3 (.int .i64 dd)).set0 4 (.int .i64 (de : Int)))
          go_wp2_with fail
          obtain ⟨⟨c0, c1, c2, c3, c4⟩, -⟩ := X9.out.head.c5
          exact bodyPost_ret (v := .tuple #[.agg #[.int .i64 da, .int .i64 db, .int .i64 dc, .int .i64 dd, .int .i64 (de : Int)], .bool true]) (by simp [results, Tryz.results103, go_sem, c0, c1, c2, c3, c4]) rfl ⟨rfl, X9.out.bel⟩
      · have i13 : ¬ ((srcN n k a b i : Nat) : Int) = (j : Int) := by omega
        rw [gmD_two0 h9 (by omega) hij, whl0_v]
        generalize srcN n k a b i = s at *
        clear hk la lb hTw h9 h12 hij
        go_enter Tryz.func103, Tryz.ntmps103
        go_wp2_with fail
        generalize (w.alloc (.cells #[.int .i64 0, .int .i64 0, .int .i64 0, .int .i64 0, .int .i64 0] 86)) = w1 at *
        refine (impl_isTwo_any _ _).mono ?_; rintro r w2 ⟨rfl, rfl⟩; rw [HT.out]
        go_wp2_with fail
        clear a0 a1 a2 n0
        refine (CC.out _).mono ?_; rintro r w2 ⟨rfl, hb⟩
        replace X := Lib.hid (X.out.call hb)
        clear hb CC P0 N0
        obtain ⟨⟨o0, o1, o2, o3, o4⟩, f0, f1, f2, f3, f4⟩ := X.out.head.c5
        have X9 := Lib.hid (((((X.out.set0 0 (.int .i64 0)).set0 1 (.int .i64 0)).set0 2 (.int .i64 0)).set0 3 (.int .i64 0)).set0 4 (.int .i64 0))
        go_wp2_with fail
        obtain ⟨⟨c0, c1, c2, c3, c4⟩, -⟩ := X9.out.head.c5
        exact bodyPost_ret (v := .tuple #[.agg #[.int .i64 0, .int .i64 0, .int .i64 0, .int .i64 0, .int .i64 0], .bool true]) (by simp [results, Tryz.results103, go_sem, c0, c1, c2, c3, c4]) rfl ⟨rfl, X9.out.bel⟩
    · have h6 : 1 ≤ k ∧ k ≤ 6 := by omega
      have hTw : decide (9 ≤ (k : Int) ∧ (k : Int) ≤ 11) = false := decide_eq_false (by omega)
      have HT := Lib.hid hTw
      have CF := Lib.hid (fun W => impl_flipped_ok n i a W hn hi la)
      by_cases hc : i = j ∨ flp n i a = j
      · rw [gmD_one h6.2 hc]
        have HC := Lib.hid hc
        have C1 := Lib.hid (fun W => impl_bitOf_ok n i a W (by omega) (by omega) la)
        have C2 := Lib.hid (fun W => impl_bitOf_ok n j a W (by omega) (by omega) la)
        have CE := Lib.hid (fun W => impl_entry_ok k (qb n i a) (qb n j a) W h6.1 h6.2 (qb_le _ _ _) (qb_le _ _ _))
        generalize flp n i a = f at *
        generalize qb n i a = qa at *
        generalize qb n j a = qc at *
        obtain ⟨D, hD⟩ : ∃ D, D = entD k qa qc := ⟨_, rfl⟩
        rw [← hD] at CE ⊢
        obtain ⟨⟨da, db, dc, dd⟩, de⟩ := D
        dsimp only [Dy.v] at CE ⊢
        clear hk lb hD hTw h9 h12 h6 hc
        go_enter Tryz.func103, Tryz.ntmps103
        go_wp2_with fail
        generalize (w.alloc (.cells #[.int .i64 0, .int .i64 0, .int .i64 0, .int .i64 0, .int .i64 0] 86)) = w1 at *
        refine (impl_isTwo_any _ _).mono ?_; rintro r w2 ⟨rfl, rfl⟩; rw [HT.out]
        go_upto_region 7 with fail
        go_cut [48] (fun s48 wx => s48 = .bool true ∧ wx = w1)
        case first =>
          by_cases hij : i = j
          · subst hij
            go_wp2_with fail
            go_meet
            exact ⟨rfl, rfl⟩
          · have i14 : ¬ (i : Int) = (j : Int) := by omega
            obtain rfl : f = j := HC.out.resolve_left hij
            clear HC hij
            go_wp2_with fail
            refine (CF.out _).mono ?_; rintro r w2 ⟨rfl, rfl⟩
            go_wp2_with fail
            go_meet
            exact ⟨rfl, rfl⟩
        case rest =>
          obtain ⟨rfl, rfl⟩ := hcut
          replace X := Lib.hid X.out.drew; replace P0 := Lib.hid P0.out.drew; replace N0 := Lib.hid N0.out.drew
          clear a0 a1 a2 n0 CF HC
          obtain ⟨⟨a0, a1, -⟩, -⟩ := P0.out.c3
          have n0 := N0.out.cs 0 _ rfl
          go_wp2_with fail
          refine AnyB.begin (S := (fun w' => w'.cell? ⟨gp, 0, none⟩ = some (.int .i64 (k : Int)) ∧ w'.cell? ⟨gp, 1, none⟩ = some (.int .i64 (a : Int)) ∧ w'.cell? ⟨np, 0, none⟩ = some (.int .i64 (n : Int)))) [13] (by kernel_rfl) ?_ (fun hHeld0 => ?_)
          · ((try dsimp only); (exact ⟨a0, a1, n0⟩))
          refine AnyB.tq (i := 0) (h := ?_)
          refine AnyB.tk (i := 1) (h := ?_)
          refine AnyB.tk (i := 2) (h := ?_)
          refine AnyB.tq (i := 3) (h := ?_)
          refine AnyB.tq (i := 4) (h := ?_)
          refine AnyB.tk (i := 5) (h := ?_)
          refine AnyB.tk (i := 7) (h := ?_)
          refine AnyB.tq (i := 8) (h := ?_)
          refine AnyB.tq (i := 9) (h := ?_)
          refine AnyB.tk (i := 10) (h := ?_)
          refine AnyB.each (rs := [6]) (by kernel_rfl) (by simp) ?_
          refine EachB.cons rfl (fun K hK hB => ?_) ?_
          · skip
            (go_simp; go_at_call 54; refine (C1.out _).mono ?_; rintro e xB ⟨rfl, rfl⟩; dsimp only)
            refine hK.out _ _ ?_ (fun hHeld1 => ?_)
            · ((try dsimp only); (exact ⟨a0, a1, n0⟩))
            clear hB hK K hHeld0
            refine AnyB.each (rs := [11]) (by kernel_rfl) (by simp) ?_
            refine EachB.cons rfl (fun K hK hB => ?_) ?_
            · skip
              (go_simp; go_at_call 54; refine (C2.out _).mono ?_; rintro e xC ⟨rfl, rfl⟩; dsimp only)
              refine hK.out _ _ ?_ (fun hHeld2 => ?_)
              · ((try dsimp only); (exact ⟨a0, a1, n0⟩))
              clear hB hK K hHeld1
              refine AnyB.each (rs := [12]) (by kernel_rfl) (by simp) ?_
              refine EachB.cons rfl (fun K hK hB => ?_) ?_
              · skip
                (go_simp; go_at_call 90; refine (CE.out _).mono ?_; rintro e xF ⟨rfl, hxF⟩; replace X := Lib.hid (X.out.call hxF); replace P0 := Lib.hid (P0.out.call hxF); replace N0 := Lib.hid (N0.out.call hxF); clear hxF a0 a1 n0; obtain ⟨⟨a0, a1, -⟩, -⟩ := P0.out.c3; have n0 := N0.out.cs 0 _ rfl; obtain ⟨⟨o0, o1, o2, o3, o4⟩, f0, f1, f2, f3, f4⟩ := X.out.head.c5; dsimp only)
                refine hK.out _ _ ?_ (fun hHeld3 => ?_)
                · ((try dsimp only); (exact ⟨a0, a1, n0⟩))
                clear hB hK K hHeld2
                refine AnyB.each (rs := [13]) (by kernel_rfl) (by simp) ?_
                refine EachB.cons rfl (fun K hK hB => ?_) ?_
                · skip
                  go_simp
                  refine hB.out _ _ rfl ?_
                  clear hB hK K
                  refine AnyB.tq (i := 14) (h := ?_)
                  refine AnyB.none (by kernel_rfl) ?_ _
                  have X9 := Lib.hid (((((X.out.set0 0 (.int .i64 da)).set0 1 (.int .i64 db)).set0 2 (.int .i64 dc)).set0 3 (.int .i64 dd)).set0 4 (.int .i64 (de : Int)))
                  go_wp2_with fail
                  obtain ⟨⟨c0, c1, c2, c3, c4⟩, -⟩ := X9.out.head.c5
                  exact bodyPost_ret (v := .tuple #[.agg #[.int .i64 da, .int .i64 db, .int .i64 dc, .int .i64 dd, .int .i64 (de : Int)], .bool true]) (by simp [results, Tryz.results103, go_sem, c0, c1, c2, c3, c4]) rfl ⟨rfl, X9.out.bel⟩
                exact EachB.nil
              exact EachB.nil
            exact EachB.nil
          exact EachB.nil
      · rw [gmD_one0 h6.2 hc, whl0_v]
        have i14 : ¬ (i : Int) = (j : Int) := by omega
        have i15 : ¬ ((flp n i a : Nat) : Int) = (j : Int) := by omega
        generalize flp n i a = f at *
        clear hk la lb hTw h9 h12 h6 hc
        go_enter Tryz.func103, Tryz.ntmps103
        go_wp2_with fail
        generalize (w.alloc (.cells #[.int .i64 0, .int .i64 0, .int .i64 0, .int .i64 0, .int .i64 0] 86)) = w1 at *
        refine (impl_isTwo_any _ _).mono ?_; rintro r w2 ⟨rfl, rfl⟩; rw [HT.out]
        go_wp2_with fail
        refine (CF.out _).mono ?_; rintro r w2 ⟨rfl, rfl⟩
        obtain ⟨⟨o0, o1, o2, o3, o4⟩, f0, f1, f2, f3, f4⟩ := X.out.head.c5
        have X9 := Lib.hid (((((X.out.set0 0 (.int .i64 0)).set0 1 (.int .i64 0)).set0 2 (.int .i64 0)).set0 3 (.int .i64 0)).set0 4 (.int .i64 0))
        go_wp2_with fail
        obtain ⟨⟨c0, c1, c2, c3, c4⟩, -⟩ := X9.out.head.c5
        exact bodyPost_ret (v := .tuple #[.agg #[.int .i64 0, .int .i64 0, .int .i64 0, .int .i64 0, .int .i64 0], .bool true]) (by simp [results, Tryz.results103, go_sem, c0, c1, c2, c3, c4]) rfl ⟨rfl, X9.out.bel⟩
end Go.Proofs.YtnckabohlakbgaaGreat
