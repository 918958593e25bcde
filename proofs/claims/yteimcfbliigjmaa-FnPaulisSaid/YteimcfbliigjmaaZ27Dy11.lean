/- The program's matrixOf: a matrix whose cells a function gives. -/
import Derived.Test.YteimcfbliigjmaaZ26Dy7
import Derived.BigRegion
import Derived.BigQuiet
namespace Go.Proofs.Yteimcfbliigjmaa
set_option linter.unusedSimpArgs false
set_option linter.unusedVariables false
set_option linter.unnecessarySimpa false
set_option maxRecDepth 200000
open Go.ChangeShapes Go.WideShapes Go.ChangeAt Go.RowKit

/-- A dimension. -/
def MDim (n : Nat) : Prop := n = 1 ∨ n = 2 ∨ n = 4 ∨ n = 8 ∨ n = 16 ∨ n = 32
theorem MDim.le {n : Nat} (h : MDim n) : 1 ≤ n ∧ n ≤ 32 := by unfold MDim at h; omega
theorem impl_isDim_ok (n : Nat) (w : World) (h : MDim n) :
    Calls Try.prog 43 #[.int .i64 (n : Int)] w fun e w' => e = .returned (.bool true) ∧ w = w' := by
  rcases h with rfl | rfl | rfl | rfl | rfl | rfl
  all_goals
    go_enter Try.func43, Try.ntmps43
    go_wp2_with fail
    refine (within_is (b := true) (by decide) _).mono ?_; rintro e w1 ⟨rfl, rfl⟩
    go_wp2_with fail
    go_ret
    exact ⟨rfl, rfl⟩
theorem dy_info : (Try.prog.info? 60).map (fun i => (i.zero, i.size, i.bytes)) = some (some (.agg #[.int .i64 0, .int .i64 0, .int .i64 0, .int .i64 0, .int .i64 0]), 5, 40) := by kernel_rfl
/-- The first m cells, row after row. -/
def cellsTo (c : Nat) (F : Nat → Nat → Dy) (m : Nat) : List Dy := (List.range m).map fun t => F (t / c) (t % c)
theorem cellsTo_len (c : Nat) (F : Nat → Nat → Dy) (m : Nat) : (cellsTo c F m).length = m := by simp [cellsTo]
theorem cellsTo_succ {c i j : Nat} (F : Nat → Nat → Dy) (hj : j < c) : cellsTo c F (i * c + j + 1) = cellsTo c F (i * c + j) ++ [F i j] := by
  unfold cellsTo
  rw [List.range_succ, List.map_append]
  have h1 : (i * c + j) / c = i := by rw [Nat.add_comm, Nat.add_mul_div_right _ _ (by omega), Nat.div_eq_of_lt hj, Nat.zero_add]
  have h2 : (i * c + j) % c = j := by rw [Nat.add_comm, Nat.add_mul_mod_self_right, Nat.mod_eq_of_lt hj]
  simp [h1, h2]
theorem cellsTo_get {c : Nat} (F : Nat → Nat → Dy) {r i j : Nat} (hi : i < r) (hj : j < c) (h : i * c + j < (cellsTo c F (r * c)).length) : (cellsTo c F (r * c))[i * c + j] = F i j := by
  have h1 : (i * c + j) / c = i := by rw [Nat.add_comm, Nat.add_mul_div_right _ _ (by omega), Nat.div_eq_of_lt hj, Nat.zero_add]
  have h2 : (i * c + j) % c = j := by rw [Nat.add_comm, Nat.add_mul_mod_self_right, Nat.mod_eq_of_lt hj]
  simp [cellsTo, h1, h2]
theorem cell_in {r c i j : Nat} (hi : i < r) (hj : j < c) : i * c + j < r * c := by
  have : (i + 1) * c ≤ r * c := Nat.mul_le_mul_right c hi
  rw [Nat.add_mul] at this; omega
/-- The state of matrixOf: the result's box, the matrix's box, its cells. -/
structure Mst (w0 w : World) (r c : Nat) (a : Option Addr) (n cap : Nat) (M : List Dy) : Prop where
  bx : Sb w0.heap.size w0 w [(w0.heap.size + 1, [.int .i64 (r : Int), .int .i64 (c : Int), .slice a n cap]), (w0.heap.size, [.int .i64 0, .int .i64 0, .slice none 0 0])]
  own : OwnE w (w0.heap.size + 2) 60 (.slice a n cap) Dy.cs 5 M
  len : M.length = n
theorem Mst.sz {w0 w : World} {r c : Nat} {a : Option Addr} {n cap : Nat} {M : List Dy} (h : Mst w0 w r c a n cap M) : w0.heap.size + 2 ≤ w.heap.size := h.bx.lt
theorem Mst.call {w0 w w' : World} {r c : Nat} {a : Option Addr} {n cap : Nat} {M : List Dy} (h : Mst w0 w r c a n cap M) (hb : Below w.heap.size w w') : Mst w0 w' r c a n cap M :=
  ⟨h.bx.call hb, OwnE.below h.own hb rfl, h.len⟩
theorem Mst.alloc {w0 w : World} {r c : Nat} {a : Option Addr} {n cap : Nat} {M : List Dy} (h : Mst w0 w r c a n cap M) (X : Obj) : Mst w0 (w.alloc X) r c a n cap M :=
  h.call (show Below w.heap.size w (w.alloc X) from (by repeat (first | exact Below.refl _ _ | assumption | refine Below.drew ?_ | refine below_drewN ?_ _ | refine Below.alloc ?_ (by first | omega | (simp <;> omega)) _ | refine Below.setCell ?_ (by first | omega | (simp <;> omega)) _ | refine Below.trans ?_ (Below.mono (by assumption) (by first | omega | (simp <;> omega))))))
theorem Mst.kept {w0 w w' : World} {r c : Nat} {a : Option Addr} {n cap : Nat} {M : List Dy} (h : Mst w0 w r c a n cap M) (hg : w.grownBy w' (Value.slice a n cap).ownBlock) :
    Sb w0.heap.size w0 w' [(w0.heap.size + 1, [.int .i64 (r : Int), .int .i64 (c : Int), .slice a n cap]), (w0.heap.size, [.int .i64 0, .int .i64 0, .slice none 0 0])] :=
  h.bx.kept hg (fun b hb => by
    have := (h.own.lt b hb).1
    refine ⟨by omega, fun p hp e => ?_⟩
    simp only [List.mem_cons, List.not_mem_nil, or_false] at hp
    rcases hp with rfl | rfl <;> (dsimp only at e; omega))
theorem Mst.app {w0 w w' : World} {r c : Nat} {a a1 : Option Addr} {n cap c1 : Nat} {M : List Dy} {D : Dy} (h : Mst w0 w r c a n cap M) (hg : w.grownBy w' (Value.slice a n cap).ownBlock)
    (ho : w'.ownsRow (w0.heap.size + 2) 60 5 (.slice a1 (n + 1) c1) (n + 1) (M.flatMap Dy.cs ++ D.cs)) : Mst w0 (w'.setCell ⟨w0.heap.size + 1, 2, none⟩ (.slice a1 (n + 1) c1)) r c a1 (n + 1) c1 (M ++ [D]) := by
  refine ⟨(h.kept hg).set0 2 (.slice a1 (n + 1) c1), OwnE.set (show OwnE w' (w0.heap.size + 2) 60 (.slice a1 (n + 1) c1) Dy.cs 5 (M ++ [D]) from ?_) (show w0.heap.size + 1 < _ by omega) _, by simp [h.len]⟩
  unfold OwnE
  rw [List.length_append, List.flatMap_append, h.len]
  simpa using ho
set_option maxHeartbeats 8000000 in
theorem impl_matrixOf_ok (r c : Nat) (hr : MDim r) (hc : MDim c) (g : Nat) (lb : Array Value) (F : Nat → Nat → Dy) (eg : ∀ args w, (callFunc g args).run Try.prog w = .ok (.enter g args) w) (w : World)
    (hF : ∀ (W : World) (i j : Nat), i < r → j < c → Below w.heap.size w W → Calls Try.prog g (#[.int .i64 (i : Int), .int .i64 (j : Int)] ++ lb) W fun e w' => e = .returned (.tuple #[(F i j).v, .bool true]) ∧ Below W.heap.size W w') :
    Calls Try.prog 25 #[.int .i64 (r : Int), .int .i64 (c : Int), .func (.func g) #[] lb] w fun e w' => ∃ a cap, e = .returned (.tuple #[.agg #[.int .i64 (r : Int), .int .i64 (c : Int), .slice a (r * c) cap], .bool true]) ∧
      OwnE w' (w.heap.size + 2) 60 (.slice a (r * c) cap) Dy.cs 5 (cellsTo c F (r * c)) ∧ Below w.heap.size w w' := by
  obtain ⟨i0, hi, hz0, hz1, hz2⟩ := info_parts dy_info
  have HF := Lib.hid hF
  have HR := Lib.hid hr
  have HC := Lib.hid hc
  obtain ⟨r1, r2⟩ := hr.le
  obtain ⟨c1, c2⟩ := hc.le
  have S0 := Lib.hid (show Mst w ((w.alloc (.cells #[.int .i64 0, .int .i64 0, .slice none 0 0] 38)).alloc (.cells #[.int .i64 (r : Int), .int .i64 (c : Int), .slice none 0 0] 38)) r c none 0 0 [] from
    ⟨((Sb.nil w).push [.int .i64 0, .int .i64 0, .slice none 0 0] 38 rfl).push [.int .i64 (r : Int), .int .i64 (c : Int), .slice none 0 0] 38 (g := w.heap.size + 1) (by simp), OwnE.nil _ _ _, rfl⟩)
  clear hr hc hF
  go_enter Try.func25, Try.ntmps25
  go_wp2_with fail
  generalize ((w.alloc (.cells #[.int .i64 0, .int .i64 0, .slice none 0 0] 38)).alloc (.cells #[.int .i64 (r : Int), .int .i64 (c : Int), .slice none 0 0] 38)) = w1 at *
  refine (impl_isDim_ok r _ HR.out).mono ?_; rintro e w2 ⟨rfl, rfl⟩
  go_wp2_with fail
  refine (impl_isDim_ok c _ HC.out).mono ?_; rintro e w2 ⟨rfl, rfl⟩
  go_wp2_with fail
  go_loopw [26] (fun o wr => ∃ (k n : Nat) (a : Option Addr) (cap : Nat), k ≤ r ∧ o = .int .i64 (k : Int) ∧ n = k * c ∧ Hid (Mst w wr r c a n cap (cellsTo c F n))) (fun o _ => r - (intOf o).toNat)
  case atStart => exact ⟨0, 0, none, 0, Nat.zero_le _, rfl, by simp, S0⟩
  case round =>
    clear S0
    obtain ⟨k, n, a, cap, hk, rfl, hn, hS⟩ := hrel
    have HN := Lib.hid hn
    clear hn
    by_cases hlt : k < r
    · have i1 : (k : Int) < (r : Int) := by omega
      go_wp2_with fail
      go_loopw [30] (fun o wr => ∃ (j n : Nat) (a : Option Addr) (cap : Nat), j ≤ c ∧ o = .int .i64 (j : Int) ∧ n = k * c + j ∧ Hid (Mst w wr r c a n cap (cellsTo c F n))) (fun o _ => c - (intOf o).toNat)
      case atStart => exact ⟨0, n, a, cap, Nat.zero_le _, rfl, by rw [HN.out]; rfl, hS⟩
      case round =>
        clear hS HN
        clear n a cap
        obtain ⟨j, n, a, cap, hj, rfl, hn, hS⟩ := hrel
        by_cases hlt2 : j < c
        · have i2 : (j : Int) < (c : Int) := by omega
          have hcall := HF.out wr k j hlt hlt2 hS.out.bx.bel
          have hsz := hS.out.sz
          have hn1024 : n ≤ 1024 := by
            have := cell_in hlt hlt2
            have h3 : r * c ≤ 32 * 32 := Nat.mul_le_mul r2 c2
            omega
          have HS := Lib.hid (show cellsTo c F (n + 1) = cellsTo c F n ++ [F k j] from by rw [hn]; exact cellsTo_succ F hlt2)
          have HN := Lib.hid (show n + 1 = k * c + (j + 1) from by rw [hn]; omega)
          clear hn
          obtain ⟨D, hD⟩ : ∃ D, D = F k j := ⟨_, rfl⟩
          rw [← hD] at hcall HS
          clear hD
          obtain ⟨⟨da, db, dc, dd⟩, de⟩ := D
          dsimp only [Dy.v] at hcall
          go_wp2_with fail
          refine hcall.mono ?_; rintro e w3 ⟨rfl, hb3⟩
          have h3 := hS.out.call hb3
          have g3 := Nat.le_trans hsz hb3.size
          clear hS hcall hb3
          have X3 := Lib.hid (h3.alloc (.cells #[.int .i64 da, .int .i64 db, .int .i64 dc, .int .i64 dd, .int .i64 (de : Int)] 60))
          have X4 := Lib.hid (X3.out.alloc (.cells #[.int .i64 da, .int .i64 db, .int .i64 dc, .int .i64 dd, .int .i64 (de : Int)] 60))
          have R4 := Lib.hid (show Reads ((w3.alloc (.cells #[.int .i64 da, .int .i64 db, .int .i64 dc, .int .i64 dd, .int .i64 (de : Int)] 60)).alloc (.cells #[.int .i64 da, .int .i64 db, .int .i64 dc, .int .i64 dd, .int .i64 (de : Int)] 60)) (w3.heap.size + 1 + 1) 5 (some ⟨w3.heap.size + 1, 0, none⟩) 1 (Dy.cs ⟨⟨da, db, dc, dd⟩, de⟩) from by
            have := reads_news (w3.alloc (.cells #[.int .i64 da, .int .i64 db, .int .i64 dc, .int .i64 dd, .int .i64 (de : Int)] 60)) (Dy.cs ⟨⟨da, db, dc, dd⟩, de⟩) 60 5 1 rfl
            simpa using this)
          clear h3
          obtain ⟨⟨c0, c1, c2⟩, f0, f1, f2⟩ := X3.out.bx.head.c3
          go_wp2_with (at_builtin; go_loud (refine wpList_append_any _ rfl _ _ 36 rfl (w.heap.size + 2) 60 i0 (.agg #[.int .i64 0, .int .i64 0, .int .i64 0, .int .i64 0, .int .i64 0]) 5 40 Try.underlying36 hi hz0 hz1 hz2 rfl (by decide) (.slice a n cap) n ((cellsTo c F n).flatMap Dy.cs) ?hs ?ho (w3.heap.size + 1 + 1) (some ⟨w3.heap.size + 1, 0, none⟩) 1 1 (Dy.cs ⟨⟨da, db, dc, dd⟩, de⟩) ?hx ?hr (Dy.ones _) ?h63 ?hb ?hbs ?_; (case hs => rfl); (case hx => rfl); (case h63 => (unfold maxLen; omega)); (case hb => omega); (case hbs => (simp; omega)); (case ho => (have h9 := X4.out.own; unfold OwnE at h9; rw [X4.out.len] at h9; exact h9)); (case hr => exact R4.out); intro v1 w5 hown1 hg1 hat1; obtain ⟨ap, cp, rfl⟩ := own_form hown1; have X5 := Lib.hid (X4.out.app hg1 hown1); obtain ⟨⟨k0, k1, k2⟩, q0, q1, q2⟩ := (X4.out.kept hg1).head.c3; clear hown1 hg1 hat1 c0 c1 c2 f0 f1 f2 X3 X4 R4))
          go_wp2_with fail
          go_roundw
          case rel => exact ⟨j + 1, n + 1, ap, cp, by omega, by go_num, HN.out, by rw [HS.out]; exact X5⟩
          case measure => simp [intOf]; omega
        · have i2 : ¬ (j : Int) < (c : Int) := by omega
          have HN := Lib.hid (show n = (k + 1) * c from by rw [hn, Nat.add_mul]; omega)
          clear hn
          go_wp2_with fail
          go_roundw
          case rel => exact ⟨k + 1, n, a, cap, by omega, by go_num, HN.out, hS⟩
          case measure => simp [intOf]; omega
    · have i1 : ¬ (k : Int) < (r : Int) := by omega
      have e9 : n = r * c := by rw [HN.out, show k = r from by omega]
      subst e9
      obtain ⟨⟨b0, b1, b2⟩, g0, g1, g2⟩ := hS.out.bx.head.c3
      obtain ⟨⟨c0, c1, c2⟩, f0, f1, f2⟩ := (hS.out.bx.at 1 rfl).c3
      have O9 := Lib.hid (((OwnE.set hS.out.own (a := ⟨w.heap.size, 0, none⟩) (by dsimp only; omega) (.int .i64 (r : Int))).set (a := ⟨w.heap.size, 1, none⟩) (by dsimp only; omega) (.int .i64 (c : Int))).set (a := ⟨w.heap.size, 2, none⟩) (by dsimp only; omega) (.slice a (r * c) cap))
      have S9 := Lib.hid (((hS.out.bx.set1 0 (.int .i64 (r : Int))).set1 1 (.int .i64 (c : Int))).set1 2 (.slice a (r * c) cap))
      clear hS
      go_wp2_with fail
      clear b0 b1 b2 g0 g1 g2 c0 c1 c2 f0 f1 f2
      generalize ((wr.setCell ⟨w.heap.size, 0, none⟩ (.int .i64 (r : Int))).setCell ⟨w.heap.size, 1, none⟩ (.int .i64 (c : Int))).setCell ⟨w.heap.size, 2, none⟩ (.slice a (r * c) cap) = w9 at *
      obtain ⟨⟨c0, c1, c2⟩, _⟩ := (S9.out.at 1 rfl).c3
      refine bodyPost_ret (v := .tuple #[.agg #[.int .i64 (r : Int), .int .i64 (c : Int), .slice a (r * c) cap], .bool true]) (by simp [results, Try.results25, go_sem, c0, c1, c2]) rfl ⟨a, cap, rfl, O9.out, S9.out.bel⟩
end Go.Proofs.Yteimcfbliigjmaa
