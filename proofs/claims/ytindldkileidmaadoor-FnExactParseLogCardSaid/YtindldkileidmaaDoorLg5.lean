/- FormatLog: the program. -/
import Derived.Test.YtindldkileidmaaDoorLg3
import Derived.Test.YtindldkileidmaaDoorTwo1
import Derived.Test.YtindldkileidmaaDoorWords
import Derived.Test.YtindldkileidmaaDoorLg4
import Derived.Test.YtindldkileidmaaDoorBrk
import Derived.BigRegion
import Derived.BigQuiet
import Derived.Deep.DeepCutAuto
namespace Go.Proofs.YtindldkileidmaaDoor
set_option linter.unusedSimpArgs false
set_option linter.unusedVariables false
set_option linter.unnecessarySimpa false
set_option maxRecDepth 200000
open Go.ChangeShapes Go.WideShapes Go.ChangeAt Go.RowKit

theorem impl_hasTwo_any (x : E3) (w : World) : Calls Tryd.prog 33 #[.int .i64 x.a] w fun e w' => e = .returned (.bool (twoR x)) ∧ w' = w := by
  by_cases h1 : x.a = 1
  · have e : twoR x = true := by unfold twoR; rw [h1]; rfl
    rw [h1, e]
    go_enter Tryd.func33, Tryd.ntmps33
    go_wp2_with fail
    go_ret
    exact ⟨rfl, rfl⟩
  · have i1 : (x.a == 1) = false := by simp [h1]
    by_cases h4 : x.a = 4
    · have e : twoR x = true := by unfold twoR; rw [h4]; rfl
      rw [h4, e]
      go_enter Tryd.func33, Tryd.ntmps33
      go_wp2_with fail
      go_ret
      exact ⟨rfl, rfl⟩
    · have i4 : (x.a == 4) = false := by simp [h4]
      have e : twoR x = false := by unfold twoR; simp [h1, h4]
      rw [e]
      generalize x.a = a at *
      clear h1 h4 e
      go_enter Tryd.func33, Tryd.ntmps33
      go_wp2_with fail
      go_ret
      exact ⟨rfl, rfl⟩
theorem info_str : (Tryd.prog.info? 9).map (fun i => (i.zero, i.size, i.bytes)) = some (some (.string ⟨#[]⟩), 1, 16) := by kernel_rfl
theorem own_fm {w : World} {base sz n : Nat} {e : TypeId} {v : Value} {xs : List Value} (h : w.ownsRow base e sz v n xs) : ∃ a cap, v = .slice a n cap := by
  rcases Go.Joins.ownsRow_forms h with ⟨rfl, h0⟩ | ⟨g, cap, rfl⟩
  · exact ⟨none, 0, by rw [h0]⟩
  · exact ⟨_, _, rfl⟩
/-- The program's table of words. -/
def Table (w : World) : Prop := ∀ k, 1 ≤ k → k ≤ 5 → w.cell? ⟨0, k, none⟩ = some (.string (wordOf k))
theorem Table.call {w w' : World} (h : Table w) (hb : Below w.heap.size w w') : Table w' := fun k h1 h2 => bel_at hb (h k h1 h2)
def wcs (s : ByteArray) : List Value := [.string s]
theorem join_own {w : World} {B n : Nat} {v : Value} {ws : List ByteArray} {T : ByteArray} (h : w.ownsRow B 9 1 v n (ws.map Value.string)) (hn : n = ws.length) (h0 : n ≠ 0) (h6 : n ≤ 1000) (hT : Lib.join (ws.map (·.data.toList)) [59] = T.data.toList) (hs : T.size ≤ 1000000) :
    Calls Tryd.prog 34 #[v, .string ⟨#[59]⟩] w fun e w' => e = .returned (.string T) ∧ Below w.heap.size w w' := by
  obtain ⟨g, cap, rfl⟩ := Go.Joins.ownsRow_form h (by omega)
  subst hn
  have hcap : ws.length ≤ cap := by
    rcases h.2 with ⟨e, _⟩ | ⟨g2, cap2, cur, e, _, _, h3, _⟩
    · cases e
    · injection e with e1 e2 e3; omega
  have hlen : (Lib.join (ws.map (·.data.toList)) (ByteArray.mk #[59]).data.toList).length ≤ 140737488355328 := by
    show (Lib.join (ws.map (·.data.toList)) [59]).length ≤ _
    rw [hT, Array.length_toList]
    have : T.data.size = T.size := rfl
    omega
  refine (Tryd.strings_Join g 0 cap ws ⟨#[59]⟩ w (fun j x hx => ?_) (World.ownsRow.lt h g rfl).2 (by omega) hcap hlen).mono ?_
  · have := World.ownsRow.cells h (g := g) rfl j (.string x) (by rw [List.getElem?_map, hx]; rfl)
    rwa [Addr.add_lit] at this
  · rintro e w2 ⟨rfl, hb⟩
    refine ⟨ret_str ?_, hb⟩
    apply ByteArray.ext
    show (Lib.join (ws.map (·.data.toList)) [59]).toArray = T.data
    (rw [hT]; try simp)
theorem str_reads (w : World) (s : ByteArray) : Reads (w.alloc (.cells #[.string s] 9)) (w.heap.size + 1) 1 (some ⟨w.heap.size, 0, none⟩) 1 [.string s] :=
  ⟨rfl, fun _ => ⟨_, rfl, by simp, news_cells w [_] _⟩⟩
theorem str_one (s : ByteArray) : ∀ u ∈ [Value.string s], u.oneCell' = true := fun u hu => by simp at hu; subst hu; rfl
theorem ok_no {x : E3} (h : okStep x = false) : ¬ (1 ≤ x.a ∧ x.a ≤ 5) ∨ ((1 ≤ x.a ∧ x.a ≤ 5) ∧ ¬ (0 ≤ x.b ∧ x.b ≤ 39)) ∨ ((1 ≤ x.a ∧ x.a ≤ 5) ∧ (0 ≤ x.b ∧ x.b ≤ 39) ∧ ¬ (0 ≤ x.c ∧ x.c ≤ 39)) ∨ ((1 ≤ x.a ∧ x.a ≤ 5) ∧ (0 ≤ x.b ∧ x.b ≤ 39) ∧ (0 ≤ x.c ∧ x.c ≤ 39) ∧ ¬ x.c = 0 ∧ twoR x = false) := by
  by_cases ha : 1 ≤ x.a ∧ x.a ≤ 5
  · by_cases hb : 0 ≤ x.b ∧ x.b ≤ 39
    · by_cases hc : 0 ≤ x.c ∧ x.c ≤ 39
      · unfold okStep at h
        rw [decide_eq_true ha, decide_eq_true hb, decide_eq_true hc] at h
        simp at h
        exact .inr (.inr (.inr ⟨ha, hb, hc, h.2, h.1⟩))
      · exact .inr (.inr (.inl ⟨ha, hb, hc⟩))
    · exact .inr (.inl ⟨ha, hb⟩)
  · exact .inl ha
set_option maxHeartbeats 8000000 in
theorem impl_FormatLog_any (v : Value) (xs : List E3) (w : World) (h : RdE w v E3.cs 3 xs) (hl : xs.length ≤ 2097152) (ht : Table w) :
    Calls Tryd.prog 21 #[v] w fun e w' => e = .returned (.tuple #[.string (logStr xs), .bool (logB xs)]) ∧ Below w.heap.size w w' := by
  obtain ⟨i0, hi, hz0, hz1, hz2⟩ := info_parts info_str
  obtain ⟨A, c, rfl, Hc⟩ := rw_at h
  have HT := Lib.hid ht
  clear h ht
  by_cases h60 : xs.length ≤ 60
  · have i2 : (xs.length : Int) ≤ 60 := by omega
    go_enter Tryd.func21, Tryd.ntmps21
    go_wp2_with fail
    have O0 := Lib.hid (show (w.alloc (.cells #[] 9)).ownsRow w.heap.size 9 1 (.slice (some ⟨w.heap.size, 0, none⟩) 0 0) 0 [] from own_lit0 (f := wcs) (sz := 1) w w.heap.size 9 w.heap.size rfl (Nat.le_refl _))
    have B0 := Lib.hid (show Below w.heap.size w (w.alloc (.cells #[] 9)) from (by repeat (first | exact Below.refl _ _ | assumption | refine Below.drew ?_ | refine below_drewN ?_ _ | refine Below.alloc ?_ (by first | omega | (simp <;> omega)) _ | refine Below.setCell ?_ (by first | omega | (simp <;> omega)) _ | refine Below.trans ?_ (Below.mono (by assumption) (by first | omega | (simp <;> omega))))))
    go_loopw [4, 14] (fun so i wr => ∃ (k : Nat) (u : Value), u = so ∧ k ≤ xs.length ∧ i = .int .i64 k ∧ Hid (allTo xs k = true) ∧ Hid (wr.ownsRow w.heap.size 9 1 u k (((xs.take k).map stepW).map Value.string)) ∧ Hid (Below w.heap.size w wr) ∧ w.heap.size ≤ wr.heap.size) (fun _ i _ => xs.length - (intOf i).toNat)
    case atStart => exact ⟨0, _, rfl, Nat.zero_le _, rfl, (show allTo xs 0 = true from rfl), O0, B0, by simp⟩
    case round =>
      clear O0 B0
      obtain ⟨k, u, rfl, hk, rfl, hA, hO, hB, hsz⟩ := hrel
      obtain ⟨aU, cU, rfl⟩ : ∃ a c, u = .slice a k c := own_fm hO.out
      by_cases hlt : k < xs.length
      · have i1 : (k : Int) < (xs.length : Int) := by omega
        obtain ⟨b, off, rfl, hb, c0, c1, c2⟩ := Hc.out k hlt
        replace c0 := (hB.out.cell hb).trans c0
        replace c1 := (hB.out.cell hb).trans c1
        replace c2 := (hB.out.cell hb).trans c2
        have HX := Lib.hid (allTo_succ hlt)
        have HNO := Lib.hid (fun h9 => all_no (xs := xs) hlt h9)
        have HTK := Lib.hid (show xs.take (k + 1) = xs.take k ++ [xs.getD k ⟨0, 0, 0⟩] from by rw [List.take_succ_eq_append_getElem hlt]; simp [List.getD, hlt])
        obtain ⟨x, hx⟩ : ∃ x, x = xs.getD k ⟨0, 0, 0⟩ := ⟨_, rfl⟩
        rw [← hx] at c0 c1 c2 HX HNO HTK
        clear hx
        cases ho : okStep x with
        | false =>
          have HN := Lib.hid (HNO.out ho)
          have HNS := Lib.hid (logStr_no (HNO.out ho))
          have hcs := ok_no ho
          have hbq := hB.out
          clear ho HX HTK HNO
          rcases hcs with h1 | ⟨h1, h2⟩ | ⟨h1, h2, h3⟩ | ⟨h1, h2, h3, h4, h5⟩
          · have D1 := Lib.hid (decide_eq_false h1)
            go_wp2_with fail
            refine (within_p _ _ _ _).mono ?_; rintro e w2 ⟨rfl, rfl⟩
            rw [D1.out]
            go_wp2_with fail
            go_ret2
            exact ⟨by (rw [HN.out, HNS.out]; try rfl), (by repeat (first | exact Below.refl _ _ | assumption | refine Below.drew ?_ | refine below_drewN ?_ _ | refine Below.alloc ?_ (by first | omega | (simp <;> omega)) _ | refine Below.setCell ?_ (by first | omega | (simp <;> omega)) _ | refine Below.trans ?_ (Below.mono (by assumption) (by first | omega | (simp <;> omega)))))⟩
          · have D1 := Lib.hid (decide_eq_true h1)
            have D2 := Lib.hid (decide_eq_false h2)
            go_wp2_with fail
            refine (within_p _ _ _ _).mono ?_; rintro e w2 ⟨rfl, rfl⟩
            rw [D1.out]
            go_wp2_with fail
            refine (within_p _ _ _ _).mono ?_; rintro e w3 ⟨rfl, rfl⟩
            rw [D2.out]
            go_wp2_with fail
            go_ret2
            exact ⟨by (rw [HN.out, HNS.out]; try rfl), (by repeat (first | exact Below.refl _ _ | assumption | refine Below.drew ?_ | refine below_drewN ?_ _ | refine Below.alloc ?_ (by first | omega | (simp <;> omega)) _ | refine Below.setCell ?_ (by first | omega | (simp <;> omega)) _ | refine Below.trans ?_ (Below.mono (by assumption) (by first | omega | (simp <;> omega)))))⟩
          · have D1 := Lib.hid (decide_eq_true h1)
            have D2 := Lib.hid (decide_eq_true h2)
            have D3 := Lib.hid (decide_eq_false h3)
            go_wp2_with fail
            refine (within_p _ _ _ _).mono ?_; rintro e w2 ⟨rfl, rfl⟩
            rw [D1.out]
            go_wp2_with fail
            refine (within_p _ _ _ _).mono ?_; rintro e w3 ⟨rfl, rfl⟩
            rw [D2.out]
            go_wp2_with fail
            refine (within_p _ _ _ _).mono ?_; rintro e w4 ⟨rfl, rfl⟩
            rw [D3.out]
            go_wp2_with fail
            go_ret2
            exact ⟨by (rw [HN.out, HNS.out]; try rfl), (by repeat (first | exact Below.refl _ _ | assumption | refine Below.drew ?_ | refine below_drewN ?_ _ | refine Below.alloc ?_ (by first | omega | (simp <;> omega)) _ | refine Below.setCell ?_ (by first | omega | (simp <;> omega)) _ | refine Below.trans ?_ (Below.mono (by assumption) (by first | omega | (simp <;> omega)))))⟩
          · have D1 := Lib.hid (decide_eq_true h1)
            have D2 := Lib.hid (decide_eq_true h2)
            have D3 := Lib.hid (decide_eq_true h3)
            have i4 : (x.c == 0) = false := by simp [h4]
            have i5 : (x.c != 0) = true := by simp [h4]
            clear h4
            go_wp2_with fail
            refine (within_p _ _ _ _).mono ?_; rintro e w2 ⟨rfl, rfl⟩
            rw [D1.out]
            go_wp2_with fail
            refine (within_p _ _ _ _).mono ?_; rintro e w3 ⟨rfl, rfl⟩
            rw [D2.out]
            go_wp2_with fail
            refine (within_p _ _ _ _).mono ?_; rintro e w4 ⟨rfl, rfl⟩
            rw [D3.out]
            go_wp2_with fail
            refine (impl_hasTwo_any x _).mono ?_; rintro e w5 ⟨rfl, rfl⟩
            rw [h5]
            go_wp2_with fail
            go_ret2
            exact ⟨by (rw [HN.out, HNS.out]; try rfl), (by repeat (first | exact Below.refl _ _ | assumption | refine Below.drew ?_ | refine below_drewN ?_ _ | refine Below.alloc ?_ (by first | omega | (simp <;> omega)) _ | refine Below.setCell ?_ (by first | omega | (simp <;> omega)) _ | refine Below.trans ?_ (Below.mono (by assumption) (by first | omega | (simp <;> omega)))))⟩
        | true =>
          have HN := Lib.hid (show allTo xs (k + 1) = true from by rw [HX.out, hA.out, ho]; rfl)
          have hst := stepW_size ho
          obtain ⟨pa, pb, pc, ptw⟩ := ok_parts ho
          clear ho HX HNO
          obtain ⟨xa, xb, xc⟩ := x
          dsimp only at c0 c1 c2 pa pb pc ptw
          obtain ⟨a, rfl⟩ : ∃ a : Nat, xa = (a : Int) := ⟨xa.toNat, by omega⟩
          obtain ⟨b1, rfl⟩ : ∃ a : Nat, xb = (a : Int) := ⟨xb.toNat, by omega⟩
          obtain ⟨c3, rfl⟩ : ∃ a : Nat, xc = (a : Int) := ⟨xc.toNat, by omega⟩
          have D1 := Lib.hid (decide_eq_true pa)
          have D2 := Lib.hid (decide_eq_true pb)
          have D3 := Lib.hid (decide_eq_true pc)
          have w6 := word_size a
          have n1 := num_size (i := b1) (by omega)
          have n2 := num_size (i := c3) (by omega)
          have a1 : 1 ≤ a := by omega
          have a5 : a ≤ 5 := by omega
          have bl : b1 < 100 := by omega
          have cl : c3 < 100 := by omega
          obtain ⟨tw, htw⟩ : ∃ t, t = twoR ⟨(a : Int), (b1 : Int), (c3 : Int)⟩ := ⟨_, rfl⟩
          have HH2 := fun (w9 : World) => impl_hasTwo_any ⟨(a : Int), (b1 : Int), (c3 : Int)⟩ w9
          rw [← htw] at ptw
          have HS2 := Lib.hid (show tw = true → stepW ⟨(a : Int), (b1 : Int), (c3 : Int)⟩ = wordOf a ++ ⟨#[32]⟩ ++ numB b1 ++ (⟨#[32]⟩ ++ numB c3) from fun h9 => by unfold stepW; rw [← htw, if_pos h9]; rfl)
          have HS1 := Lib.hid (show tw = false → stepW ⟨(a : Int), (b1 : Int), (c3 : Int)⟩ = wordOf a ++ ⟨#[32]⟩ ++ numB b1 from fun h9 => by unfold stepW; rw [← htw, if_neg (by rw [h9]; exact Bool.false_ne_true)]; rfl)
          have HHT := Lib.hid (show ∀ w9 : World, Calls Tryd.prog 33 #[.int .i64 (a : Int)] w9 (fun e w' => e = .returned (.bool tw) ∧ w' = w9) from fun w9 => by rw [htw]; exact HH2 w9)
          clear htw HH2
          obtain ⟨SW, hSW⟩ : ∃ S, S = stepW ⟨(a : Int), (b1 : Int), (c3 : Int)⟩ := ⟨_, rfl⟩
          rw [← hSW] at hst HS1 HS2
          have HSW := Lib.hid hSW
          clear hSW
          have tb := ((HT.out.call hB.out) a a1 a5)
          have HW := Lib.hid (show Below w.heap.size w (wr.alloc (.cells #[.int .i64 (a : Int), .int .i64 (b1 : Int), .int .i64 (c3 : Int)] 36)) from Below.alloc hB.out hsz _)
          have x0 : (wr.alloc (.cells #[.int .i64 (a : Int), .int .i64 (b1 : Int), .int .i64 (c3 : Int)] 36)).cell? ⟨wr.heap.size, 0, none⟩ = some (.int .i64 (a : Int)) := (by repeat (first | (refine Eq.trans (World.cell?_alloc_at _ _ _ _ ?hh) ?_; (case hh => (simp; done)); rfl) | refine cell_alloc_keep _ ?_))
          have x1 : (wr.alloc (.cells #[.int .i64 (a : Int), .int .i64 (b1 : Int), .int .i64 (c3 : Int)] 36)).cell? ⟨wr.heap.size, 1, none⟩ = some (.int .i64 (b1 : Int)) := (by repeat (first | (refine Eq.trans (World.cell?_alloc_at _ _ _ _ ?hh) ?_; (case hh => (simp; done)); rfl) | refine cell_alloc_keep _ ?_))
          have x2 : (wr.alloc (.cells #[.int .i64 (a : Int), .int .i64 (b1 : Int), .int .i64 (c3 : Int)] 36)).cell? ⟨wr.heap.size, 2, none⟩ = some (.int .i64 (c3 : Int)) := (by repeat (first | (refine Eq.trans (World.cell?_alloc_at _ _ _ _ ?hh) ?_; (case hh => (simp; done)); rfl) | refine cell_alloc_keep _ ?_))
          have x3 := cell_alloc_keep (.cells #[.int .i64 (a : Int), .int .i64 (b1 : Int), .int .i64 (c3 : Int)] 36) tb
          have zW : w.heap.size ≤ (wr.alloc (.cells #[.int .i64 (a : Int), .int .i64 (b1 : Int), .int .i64 (c3 : Int)] 36)).heap.size := by simp; omega
          replace hO := Lib.hid (World.ownsRow.alloc hO.out (.cells #[.int .i64 (a : Int), .int .i64 (b1 : Int), .int .i64 (c3 : Int)] 36))
          go_upto_region 7 with fail
          generalize (wr.alloc (.cells #[.int .i64 (a : Int), .int .i64 (b1 : Int), .int .i64 (c3 : Int)] 36)) = W at *
          clear c0 c1 c2 tb hB
          go_cut [44] (fun s44 wx => s44 = .bool false ∧ wx = W)
          case first =>
            by_cases hc0 : c3 = 0
            · have i6 : ((c3 : Int) != 0) = false := by simp; omega
              clear hc0
              go_wp2_with fail
              refine (within_p _ _ _ _).mono ?_; rintro e w2 ⟨rfl, rfl⟩
              rw [D1.out]
              go_wp2_with fail
              refine (within_p _ _ _ _).mono ?_; rintro e w3 ⟨rfl, rfl⟩
              rw [D2.out]
              go_wp2_with fail
              refine (within_p _ _ _ _).mono ?_; rintro e w4 ⟨rfl, rfl⟩
              rw [D3.out]
              go_wp2_with fail
              go_meet
              exact ⟨rfl, rfl⟩
            · have i6 : ((c3 : Int) != 0) = true := by simp; omega
              have htt : tw = true := by rcases ptw with h9 | h9; exact h9; omega
              clear hc0
              go_wp2_with fail
              refine (within_p _ _ _ _).mono ?_; rintro e w2 ⟨rfl, rfl⟩
              rw [D1.out]
              go_wp2_with fail
              refine (within_p _ _ _ _).mono ?_; rintro e w3 ⟨rfl, rfl⟩
              rw [D2.out]
              go_wp2_with fail
              refine (within_p _ _ _ _).mono ?_; rintro e w4 ⟨rfl, rfl⟩
              rw [D3.out]
              go_wp2_with fail
              refine (HHT.out _).mono ?_; rintro e w5 ⟨rfl, rfl⟩
              rw [htt]
              go_wp2_with fail
              go_meet
              exact ⟨rfl, rfl⟩
          case rest =>
            obtain ⟨rfl, rfl⟩ := hcut
            have k1 : ¬ 9223372036854775807 < (wordOf a).size + 1 := by omega
            have k2 : ¬ 9223372036854775807 < (wordOf a).size + 1 + (numB b1).size := by omega
            have k4 : ¬ 9223372036854775807 < 1 + (numB c3).size := by omega
            have k5 : ¬ 9223372036854775807 < (wordOf a).size + 1 + (numB b1).size + (1 + (numB c3).size) := by omega
            have i8 : (a : Int) < 6 := by omega
            go_upto_region 9 with fail
            replace x0 : wc.drew.cell? _ = _ := x0; replace x1 : wc.drew.cell? _ = _ := x1; replace x2 : wc.drew.cell? _ = _ := x2; replace x3 : wc.drew.cell? _ = _ := x3
            replace HW := Lib.hid (show Below w.heap.size w wc.drew from Below.trans HW.out ((show Below wc.heap.size wc wc.drew from (by repeat (first | exact Below.refl _ _ | assumption | refine Below.drew ?_ | refine below_drewN ?_ _ | refine Below.alloc ?_ (by first | omega | (simp <;> omega)) _ | refine Below.setCell ?_ (by first | omega | (simp <;> omega)) _ | refine Below.trans ?_ (Below.mono (by assumption) (by first | omega | (simp <;> omega)))))).mono zW))
            replace zW : w.heap.size ≤ wc.drew.heap.size := zW
            replace hO := Lib.hid (own_below hO.out (show Below wc.heap.size wc wc.drew from (by repeat (first | exact Below.refl _ _ | assumption | refine Below.drew ?_ | refine below_drewN ?_ _ | refine Below.alloc ?_ (by first | omega | (simp <;> omega)) _ | refine Below.setCell ?_ (by first | omega | (simp <;> omega)) _ | refine Below.trans ?_ (Below.mono (by assumption) (by first | omega | (simp <;> omega)))))) rfl)
            refine AnyB.begin (S := (fun w' => w'.cell? ⟨wr.heap.size, 0, none⟩ = some (.int .i64 (a : Int)) ∧ w'.cell? ⟨wr.heap.size, 1, none⟩ = some (.int .i64 (b1 : Int)) ∧ w'.cell? ⟨0, a, none⟩ = some (.string (wordOf a)))) [] (by kernel_rfl) ?_ (fun hHeld0 => ?_)
            · ((try dsimp only); (first | exact ⟨x0, x1, x3⟩))
            refine AnyB.takeQ (i := 0) (oi := _) (v := ?_) (by simp only [List.getElem?_toArray, List.getElem?_cons_zero, List.getElem?_cons_succ]; rfl) (by kernel_rfl) (by kernel_rfl) (by kernel_rfl) (by intro _ _ _ h; exact h) (Or.inl ⟨by rfl, ?_⟩) ?_
            rotate_left
            · (intro w hSw; (try dsimp only at hSw); go_simp; (try (with_reducible rfl)))
            try simp only [Act.put, List.setIfInBounds_toArray, List.set_cons_zero, List.set_cons_succ]
            refine AnyB.take (i := 1) (oi := _) (v := ?_) (by simp only [List.getElem?_toArray, List.getElem?_cons_zero, List.getElem?_cons_succ]; rfl) (by kernel_rfl) (by kernel_rfl) (by kernel_rfl) (by kernel_rfl) (by kernel_rfl) (by intro _ _ _ h; exact h) (Or.inl ⟨by rfl, ?_⟩) (by assumption) ?_
            rotate_left
            · (intro w hSw; (try dsimp only at hSw); go_simp; (try (with_reducible rfl)))
            try simp only [Act.put, List.setIfInBounds_toArray, List.set_cons_zero, List.set_cons_succ]
            refine AnyB.takeQ (i := 2) (oi := _) (v := ?_) (by simp only [List.getElem?_toArray, List.getElem?_cons_zero, List.getElem?_cons_succ]; rfl) (by kernel_rfl) (by kernel_rfl) (by kernel_rfl) (by intro _ _ _ h; exact h) (Or.inl ⟨by rfl, ?_⟩) ?_
            rotate_left
            · (intro w hSw; (try dsimp only at hSw); go_simp; (try (with_reducible rfl)))
            try simp only [Act.put, List.setIfInBounds_toArray, List.set_cons_zero, List.set_cons_succ]
            refine AnyB.take (i := 3) (oi := _) (v := ?_) (by simp only [List.getElem?_toArray, List.getElem?_cons_zero, List.getElem?_cons_succ]; rfl) (by kernel_rfl) (by kernel_rfl) (by kernel_rfl) (by kernel_rfl) (by kernel_rfl) (by intro _ _ _ h; exact h) (Or.inl ⟨by rfl, ?_⟩) (by assumption) ?_
            rotate_left
            · (intro w hSw; (try dsimp only at hSw); go_simp; (try (with_reducible rfl)))
            try simp only [Act.put, List.setIfInBounds_toArray, List.set_cons_zero, List.set_cons_succ]
            refine AnyB.takeQ (i := 4) (oi := _) (v := ?_) (by simp only [List.getElem?_toArray, List.getElem?_cons_zero, List.getElem?_cons_succ]; rfl) (by kernel_rfl) (by kernel_rfl) (by kernel_rfl) (by intro _ _ _ h; exact h) (Or.inl ⟨by rfl, ?_⟩) ?_
            rotate_left
            · (intro w hSw; (try dsimp only at hSw); go_simp; (try (with_reducible rfl)))
            try simp only [Act.put, List.setIfInBounds_toArray, List.set_cons_zero, List.set_cons_succ]
            refine AnyB.takeQ (i := 5) (oi := _) (v := ?_) (by simp only [List.getElem?_toArray, List.getElem?_cons_zero, List.getElem?_cons_succ]; rfl) (by kernel_rfl) (by kernel_rfl) (by kernel_rfl) (by intro _ _ _ h; exact h) (Or.inl ⟨by rfl, ?_⟩) ?_
            rotate_left
            · (intro w hSw; (try dsimp only at hSw); go_simp; (try (with_reducible rfl)))
            try simp only [Act.put, List.setIfInBounds_toArray, List.set_cons_zero, List.set_cons_succ]
            refine AnyB.take (i := 6) (oi := _) (v := ?_) (by simp only [List.getElem?_toArray, List.getElem?_cons_zero, List.getElem?_cons_succ]; rfl) (by kernel_rfl) (by kernel_rfl) (by kernel_rfl) (by kernel_rfl) (by kernel_rfl) (by intro _ _ _ h; exact h) (Or.inl ⟨by rfl, ?_⟩) (by assumption) ?_
            rotate_left
            · (intro w hSw; (try dsimp only at hSw); go_simp; (try (with_reducible rfl)))
            try simp only [Act.put, List.setIfInBounds_toArray, List.set_cons_zero, List.set_cons_succ]
            refine AnyB.each (rs := [7]) (by kernel_rfl) (by simp) ?_
            refine EachB.cons rfl (fun K hK hB => ?_) ?_
            · skip
              (go_simp; go_at_call 31; refine (itoa_small b1 bl _).mono ?_; rintro e w3 ⟨rfl, rfl⟩; dsimp only)
              refine hK.out _ _ ?_ (fun hHeld1 => ?_)
              · ((try dsimp only); (first | exact ⟨x0, x1, x3⟩))
              clear hB hK K hHeld0
              refine AnyB.takeQ (i := 8) (oi := _) (v := ?_) (by simp only [List.getElem?_toArray, List.getElem?_cons_zero, List.getElem?_cons_succ]; rfl) (by kernel_rfl) (by kernel_rfl) (by kernel_rfl) (by intro _ _ _ h; exact h) (Or.inl ⟨by rfl, ?_⟩) ?_
              rotate_left
              · (intro w hSw; (try dsimp only at hSw); go_simp; (try (with_reducible rfl)))
              try simp only [Act.put, List.setIfInBounds_toArray, List.set_cons_zero, List.set_cons_succ]
              refine AnyB.takeQ (i := 9) (oi := _) (v := ?_) (by simp only [List.getElem?_toArray, List.getElem?_cons_zero, List.getElem?_cons_succ]; rfl) (by kernel_rfl) (by kernel_rfl) (by kernel_rfl) (by intro _ _ _ h; exact h) (Or.inl ⟨by rfl, ?_⟩) ?_
              rotate_left
              · (intro w hSw; (try dsimp only at hSw); go_simp; (try (with_reducible rfl)))
              try simp only [Act.put, List.setIfInBounds_toArray, List.set_cons_zero, List.set_cons_succ]
              refine AnyB.none (by kernel_rfl) ?_ _
              generalize wc.drew = W2 at *
              cases tw with
              | true =>
                have HN2 := Lib.hid (HS2.out rfl)
                have OX := Lib.hid (World.ownsRow.alloc hO.out (.cells #[.string SW] 9))
                have hbX := Lib.hid (Below.alloc HW.out zW (.cells #[.string SW] 9))
                go_wp2_with fail
                refine (HHT.out _).mono ?_; rintro e w5 ⟨rfl, rfl⟩
                go_wp2_with fail
                refine (itoa_small c3 cl _).mono ?_; rintro e w6 ⟨rfl, rfl⟩
                go_upto_region 12 with fail
                rw [← HN2.out]
                clear k1 k2 k4 k5 HS1 HS2
                have g1 : k + 1 ≤ maxLen := by unfold maxLen; omega
                have g2 : (k + 1) * 16 ≤ 140737488355328 := by omega
                have g3 : w.heap.size ≤ (w6.alloc (.cells #[.string SW] 9)).heap.size := by simp; omega
                have g4 : (Value.string ⟨#[]⟩).cells.size = 1 := rfl
                have g5 := str_reads w6 SW
                have g6 := str_one SW
                have HL4 := Lib.hid (show ((xs.take (k + 1)).map stepW).map Value.string = ((xs.take k).map stepW).map Value.string ++ [Value.string SW] from by rw [HTK.out, List.map_append, List.map_append, List.map_singleton, List.map_singleton, ← HSW.out])
                go_wp2_with (at_builtin; refine wpList_append_any _ rfl (.tmp 63) (.tmp 65) 33 rfl w.heap.size 9 i0 (.string ⟨#[]⟩) 1 16 Tryd.underlying33 hi hz0 hz1 hz2 g4 (by decide) (.slice aU k cU) k _ (by rfl) OX.out (w6.heap.size + 1) (some ⟨w6.heap.size, 0, none⟩) 1 1 [.string SW] (by rfl) g5 g6 g1 g2 g3 ?_; intro v3 w4 hown3 hg3 hat3; have S4 := Lib.hid (show w4.ownsRow w.heap.size 9 1 v3 (k + 1) (((xs.take (k + 1)).map stepW).map Value.string) from (by rw [HL4.out]; exact hown3)); have B4 := Lib.hid (grown_below hbX.out OX.out hg3 (Nat.le_refl _) g3); have z4 := hg3.size; (simp at z4); clear hown3 hg3 hat3)
                go_roundw
                case rel => exact ⟨k + 1, v3, rfl, by omega, by go_num, HN, S4, B4, by omega⟩
                case measure => simp [intOf]; omega
              | false =>
                have HN2 := Lib.hid (HS1.out rfl)
                have OX := Lib.hid (World.ownsRow.alloc hO.out (.cells #[.string SW] 9))
                have hbX := Lib.hid (Below.alloc HW.out zW (.cells #[.string SW] 9))
                go_wp2_with fail
                refine (HHT.out _).mono ?_; rintro e w5 ⟨rfl, rfl⟩
                go_upto_region 12 with fail
                rw [← HN2.out]
                clear k1 k2 k4 k5 HS1 HS2
                have g1 : k + 1 ≤ maxLen := by unfold maxLen; omega
                have g2 : (k + 1) * 16 ≤ 140737488355328 := by omega
                have g3 : w.heap.size ≤ (w5.alloc (.cells #[.string SW] 9)).heap.size := by simp; omega
                have g4 : (Value.string ⟨#[]⟩).cells.size = 1 := rfl
                have g5 := str_reads w5 SW
                have g6 := str_one SW
                have HL4 := Lib.hid (show ((xs.take (k + 1)).map stepW).map Value.string = ((xs.take k).map stepW).map Value.string ++ [Value.string SW] from by rw [HTK.out, List.map_append, List.map_append, List.map_singleton, List.map_singleton, ← HSW.out])
                go_wp2_with (at_builtin; refine wpList_append_any _ rfl (.tmp 63) (.tmp 65) 33 rfl w.heap.size 9 i0 (.string ⟨#[]⟩) 1 16 Tryd.underlying33 hi hz0 hz1 hz2 g4 (by decide) (.slice aU k cU) k _ (by rfl) OX.out (w5.heap.size + 1) (some ⟨w5.heap.size, 0, none⟩) 1 1 [.string SW] (by rfl) g5 g6 g1 g2 g3 ?_; intro v3 w4 hown3 hg3 hat3; have S4 := Lib.hid (show w4.ownsRow w.heap.size 9 1 v3 (k + 1) (((xs.take (k + 1)).map stepW).map Value.string) from (by rw [HL4.out]; exact hown3)); have B4 := Lib.hid (grown_below hbX.out OX.out hg3 (Nat.le_refl _) g3); have z4 := hg3.size; (simp at z4); clear hown3 hg3 hat3)
                go_roundw
                case rel => exact ⟨k + 1, v3, rfl, by omega, by go_num, HN, S4, B4, by omega⟩
                case measure => simp [intOf]; omega
            exact EachB.nil
      · obtain rfl : k = xs.length := by omega
        have i1 : ¬ (xs.length : Int) < (xs.length : Int) := by omega
        have HL := Lib.hid (show logB xs = true from by unfold logB; rw [← allTo_all (Nat.le_refl _), hA.out, decide_eq_true h60]; rfl)
        have HLS := Lib.hid (logStr_yes HL.out)
        by_cases h0 : xs.length = 0
        · have HN := Lib.hid (show logText xs = ⟨#[45]⟩ from by unfold logText; rw [if_pos h0])
          have i5 : ((xs.length : Int) == 0) = true := by rw [h0]; rfl
          have hbq := hB.out
          clear h0
          go_wp2_with fail
          go_ret2
          exact ⟨by (rw [HL.out, HLS.out, HN.out]; try rfl), (by repeat (first | exact Below.refl _ _ | assumption | refine Below.drew ?_ | refine below_drewN ?_ _ | refine Below.alloc ?_ (by first | omega | (simp <;> omega)) _ | refine Below.setCell ?_ (by first | omega | (simp <;> omega)) _ | refine Below.trans ?_ (Below.mono (by assumption) (by first | omega | (simp <;> omega)))))⟩
        · have HN := Lib.hid (show logText xs = textTo xs xs.length from by unfold logText; rw [if_neg h0])
          have i5 : ((xs.length : Int) == 0) = false := beq_eq_false_iff_ne.2 (by omega)
          have hts := text_size (show xs.all okStep = true from by rw [← allTo_all (Nat.le_refl _)]; exact hA.out) xs.length (Nat.le_refl _)
          have HJ := Lib.hid (join_own hO.out (by simp) h0 (by omega) (join_text xs xs.length (Nat.le_refl _)) (by omega))
          obtain ⟨T, hT⟩ : ∃ T, T = textTo xs xs.length := ⟨_, rfl⟩
          rw [← hT] at HN HJ
          clear h0 hts hT
          go_wp2_with fail
          refine HJ.out.mono ?_; rintro e w2 ⟨rfl, hb2⟩
          have bw2 := Lib.hid (Below.trans hB.out (hb2.mono hsz))
          go_wp2_with fail
          go_ret2
          exact ⟨by (rw [HL.out, HLS.out, HN.out]; try rfl), bw2.out⟩
  · have i2 : ¬ (xs.length : Int) ≤ 60 := by omega
    have HN := Lib.hid (show logB xs = false from by unfold logB; rw [decide_eq_false h60, Bool.and_false])
    have HNS := Lib.hid (logStr_no HN.out)
    go_enter Tryd.func21, Tryd.ntmps21
    go_wp2_with fail
    go_ret2
    exact ⟨by (rw [HN.out, HNS.out]; try rfl), (by repeat (first | exact Below.refl _ _ | assumption | refine Below.drew ?_ | refine below_drewN ?_ _ | refine Below.alloc ?_ (by first | omega | (simp <;> omega)) _ | refine Below.setCell ?_ (by first | omega | (simp <;> omega)) _ | refine Below.trans ?_ (Below.mono (by assumption) (by first | omega | (simp <;> omega)))))⟩
end Go.Proofs.YtindldkileidmaaDoor
