/- The rank over GF(2), in the reference. -/
import Derived.Test.YtbcjligkjoimmaaZ16Del
import Derived.Test.YtbcjligkjoimmaaZ14M
import Derived.Shelf.Abstract
namespace Go.Proofs.Ytbcjligkjoimmaa
set_option linter.unusedSimpArgs false
set_option linter.unusedVariables false
set_option linter.unnecessarySimpa false
set_option maxRecDepth 200000
open Go.ChangeShapes Go.WideShapes Go.ChangeAt Go.RowKit

set_option maxHeartbeats 1000000 in
theorem spec_l12Rank_some (v : Value) (L : List Nat) (w : World) (h : RdI w v (ints L)) (h0 : 0 < L.length) (hn : L.length ≤ 1048576) (hb : ∀ r ∈ L, r ≤ 1023) :
    Calls Try.prog 85 #[v] w fun e w' => ∃ N : Nat, e = .returned (.int .i64 N) ∧ Left N 0 10 0 L ∧ Below w.heap.size w w' := by
  have H := Lib.hid h
  obtain ⟨A, c, rfl, _⟩ := h.form
  clear h
  have HB := Lib.hid hb; clear hb
  obtain ⟨N, hN⟩ := Left.start L
  have HN := Lib.hid hN; have HN9 := Lib.hid hN; clear hN
  go_enter Try.func85, Try.ntmps85
  go_wp2_with fail
  refine (spec_l1Own_any _ (ints L) _ H.out (by rw [ints_len]; exact hn)).mono ?_; rintro e w1 ⟨v1, rfl, ho, hb1⟩
  obtain ⟨g, cap, rfl, hg0, hg1⟩ := own_ints ho h0
  have Ho := Lib.hid (OwnN.of ho); clear ho
  go_wp2_with fail
  go_loopw [4, 5] (fun rk bt wr => ∃ (k r : Nat) (M : List Nat), k ≤ 10 ∧ r ≤ k ∧ r ≤ M.length ∧ M.length = L.length ∧ bt = .int .i64 k ∧ rk = .int .i64 r ∧ Hid (OwnN wr w.heap.size g L.length cap M) ∧ Hid (∀ x ∈ M, x ≤ 1023) ∧ Hid (Left N r (10 - k) k (M.drop r)) ∧ Below w.heap.size w wr) (fun _ i _ => 10 - (intOf i).toNat)
  case atStart => exact ⟨0, 0, L, by omega, by omega, by omega, rfl, rfl, rfl, Ho, HB, HN, hb1⟩
  case round =>
    obtain ⟨k, r, M, hk, hrk, hr, hM, rfl, rfl, hown, hbd, hleft, hbel⟩ := hrel
    clear Ho HB HN hb1
    have HM := Lib.hid hM
    have hM1 : L.length ≤ M.length := by omega
    have hM2 : M.length ≤ L.length := by omega
    clear hM
    by_cases hlt : k < 10
    · have i1 : (k : Int) < 10 := by omega
      obtain ⟨wo, hwo⟩ : ∃ wo : World, wo = wr := ⟨_, rfl⟩
      go_wp2_with fail
      go_loop [6, 7] (fun at_ i => ∃ j : Nat, r ≤ j ∧ j ≤ L.length ∧ at_ = .int .i64 (-1) ∧ i = .int .i64 j ∧ Hid (∀ t, r ≤ t → t < j → (M.getD t 0).testBit k = false)) (fun _ i => L.length - (intOf i).toNat)
      case atStart => exact ⟨r, by omega, by omega, rfl, rfl, (fun t h1 h2 => by omega)⟩
      case round =>
        obtain ⟨j, hj0, hj, rfl, rfl, hnone⟩ := hrel
        by_cases hjl : j < L.length
        · have hcell := own_int_cell hown.out j (by omega)
          obtain ⟨y, hy⟩ : ∃ y, y = M.getD j 0 := ⟨_, rfl⟩
          rw [← hy] at hcell
          have Hy := Lib.hid hy; clear hy
          have i2 : (j : Int) < (L.length : Int) := by omega
          have hyb : y ≤ 1023 := by rw [Hy.out]; exact getD_bd hbd.out
          have hbt := bit_test y k (by omega)
          cases hb : y.testBit k with
          | false =>
            rw [hb] at hbt
            have Hb := Lib.hid hb; clear hb
            go_wp2_with fail
            go_round
            case rel =>
              refine ⟨j + 1, by omega, by omega, rfl, by go_num, (show ∀ t, r ≤ t → t < j + 1 → (M.getD t 0).testBit k = false from fun t h1 h2 => ?_)⟩
              by_cases e : t = j
              · subst e; rw [← Hy.out]; exact Hb.out
              · exact hnone.out t h1 (by omega)
            case measure => simp [intOf]; omega
          | true =>
            rw [hb] at hbt
            have Hb := Lib.hid hb; clear hb
            have hcr := own_int_cell hown.out r (by omega)
            have hfj := hown.out.frz j
            have hfr := hown.out.frz r
            have i3 : (r : Int) < (L.length : Int) := by omega
            obtain ⟨z, hz⟩ : ∃ z, z = M.getD r 0 := ⟨_, rfl⟩
            rw [← hz] at hcr
            obtain ⟨u', hu'⟩ := cell?_setCell_some (w := wr) (p := ⟨g, j, none⟩) (x := .int .i64 (z : Int)) (q := ⟨g, r, none⟩) hcr
            obtain ⟨S, hS⟩ : ∃ S, S = swp M r j := ⟨_, rfl⟩
            have hS1 : (M.set j z).set r y = S := by rw [hS, hz, Hy.out]; rfl
            have hS2 : S.length = L.length := by rw [hS, swp_len]; exact HM.out
            have hS3 : L.length ≤ S.length := by omega
            have HS2 := Lib.hid hS2
            have HSb := Lib.hid (show ∀ x ∈ S, x ≤ 1023 from by rw [hS]; exact swp_bd hbd.out)
            have HF := Lib.hid (show Left N (r + 1) (10 - (k + 1)) (k + 1) ((clrTo S r k y L.length).drop (r + 1)) from by
              have := Left.swap hleft.out hlt hj0 (by omega) (by rw [← Hy.out]; exact Hb.out) L.length (by omega)
              rw [← Hy.out, ← hS] at this; exact this)
            have own2 := Lib.hid (show OwnN ((wr.setCell ⟨g, j, none⟩ (.int .i64 (z : Int))).setCell ⟨g, r, none⟩ (.int .i64 (y : Int))) w.heap.size g L.length cap (clrTo S r k y 0) from by
              rw [clrTo_zero, ← hS1]; exact (hown.out.set j z).set r y)
            have bel2 : Below w.heap.size w ((wr.setCell ⟨g, j, none⟩ (.int .i64 (z : Int))).setCell ⟨g, r, none⟩ (.int .i64 (y : Int))) := (by repeat (first | exact Below.refl _ _ | assumption | refine Below.drew ?_ | refine below_drewN ?_ _ | refine Below.alloc ?_ (by first | omega | (simp <;> omega)) _ | refine Below.setCell ?_ (by first | omega | (simp <;> omega)) _ | refine Below.trans ?_ (Below.mono (by assumption) (by first | omega | (simp <;> omega)))))
            have hjr0 : (j < 0) = False := by simp
            clear hS hS1 hS2 hz hown hbel hnone hleft hbd Hy
            go_wp2_with fail
            clear hcell hcr hfj hfr hu'
            go_loopw [9, 52] (fun _ i wq => ∃ q : Nat, q ≤ L.length ∧ i = .int .i64 q ∧ Hid (OwnN wq w.heap.size g L.length cap (clrTo S r k y q)) ∧ Below w.heap.size w wq) (fun _ i _ => L.length - (intOf i).toNat)
            case atStart => exact ⟨0, by omega, rfl, own2, bel2⟩
            case round =>
              obtain ⟨q, hq, rfl, hown3, hbel3⟩ := hrel
              rename_i wq _
              clear own2 bel2
              by_cases hql : q < L.length
              · have hcell := own_int_cell hown3.out q (by rw [clrTo_len]; omega)
                rw [clrTo_get (by omega)] at hcell
                have hfq := hown3.out.frz q
                obtain ⟨x, hx⟩ : ∃ x, x = S.getD q 0 := ⟨_, rfl⟩
                rw [← hx] at hcell
                have hxb : x ≤ 1023 := by rw [hx]; exact getD_bd HSb.out
                have hbt2 := bit_test x k (by omega)
                have hxo := bits_xor x y (by omega) (by omega)
                have Hx := Lib.hid hx; clear hx
                have i4 : (q : Int) < (L.length : Int) := by omega
                by_cases hqr : q = r
                · have g1 : ((q : Int) != (r : Int)) = false := by simp [hqr]
                  have hk : Hid (clrTo S r k y (q + 1) = clrTo S r k y q) := clrTo_same (by omega) (fun h => h.1 hqr)
                  clear hqr
                  go_wp2_with fail
                  go_roundw
                  case rel => exact ⟨q + 1, by omega, by go_num, (show OwnN _ _ _ _ _ _ from by rw [hk.out]; exact hown3.out), hbel3⟩
                  case measure => simp [intOf]; omega
                · have g1 : ((q : Int) != (r : Int)) = true := by simp; omega
                  have Hqr := Lib.hid hqr; clear hqr
                  cases hxt : x.testBit k with
                  | false =>
                    rw [hxt] at hbt2
                    have hk : Hid (clrTo S r k y (q + 1) = clrTo S r k y q) := clrTo_same (by omega) (fun h => by rw [← Hx.out, hxt] at h; cases h.2)
                    clear hxt
                    go_wp2_with fail
                    go_roundw
                    case rel => exact ⟨q + 1, by omega, by go_num, (show OwnN _ _ _ _ _ _ from by rw [hk.out]; exact hown3.out), hbel3⟩
                    case measure => simp [intOf]; omega
                  | true =>
                    rw [hxt] at hbt2
                    have hk : Hid (clrTo S r k y (q + 1) = (clrTo S r k y q).set q (x ^^^ y)) := by
                      show _ = _
                      rw [clrTo_succ (by omega), ← Hx.out]; simp only [clr]; rw [if_pos ⟨Hqr.out, hxt⟩]
                    clear hxt
                    go_wp2_with fail
                    go_roundw
                    case rel => exact ⟨q + 1, by omega, by go_num, (show OwnN _ _ _ _ _ _ from by rw [hk.out]; exact hown3.out.set q (x ^^^ y)), (by repeat (first | exact Below.refl _ _ | assumption | refine Below.drew ?_ | refine below_drewN ?_ _ | refine Below.alloc ?_ (by first | omega | (simp <;> omega)) _ | refine Below.setCell ?_ (by first | omega | (simp <;> omega)) _ | refine Below.trans ?_ (Below.mono (by assumption) (by first | omega | (simp <;> omega)))))⟩
                    case measure => simp [intOf]; omega
              · have e : q = L.length := by omega
                subst e
                go_wp2_with fail
                go_roundw
                case rel => exact ⟨k + 1, r + 1, clrTo S r k y L.length, by omega, by omega, by rw [clrTo_len]; omega, by rw [clrTo_len]; exact HS2.out, by go_num, by go_num, hown3, clrTo_bd (by omega) HSb.out _, HF.out, hbel3⟩
                case measure => simp [intOf]; omega
        · have e : j = L.length := by omega
          subst e
          go_wp2_with fail
          go_roundw
          case rel => exact ⟨k + 1, r, M, by omega, by omega, by omega, HM.out, by go_num, rfl, hown, hbd, Left.none hleft.out hlt (fun t h1 h2 => hnone.out t h1 (by rw [← HM.out]; exact h2)), hbel⟩
          case measure => simp [intOf]; omega
    · have e : k = 10 := by omega
      subst e
      go_wp2_with fail
      go_ret
      refine ⟨r, rfl, ?_, hbel⟩; have h9 := Left.done (show Left N r 0 10 (M.drop r) from hleft.out); subst h9; exact HN9.out
end Go.Proofs.Ytbcjligkjoimmaa
namespace Go.Proofs.Ytbcjligkjoimmaa
set_option linter.unusedSimpArgs false
set_option linter.unusedVariables false
set_option linter.unnecessarySimpa false
set_option maxRecDepth 200000
open Go.ChangeShapes Go.WideShapes Go.ChangeAt Go.RowKit

def bitP (k : Nat) (z : Int) : Bool := z.toNat.testBit k
theorem rankOf1_any (B k : Nat) (M : List Nat) (w : World) (hB : B < w.heap.size) (hc : w.cell? ⟨B, 0, none⟩ = some (.int .i64 (k : Int))) (hk : k < 10) (hM : ∀ x ∈ M, x ≤ 1023) :
    PredB 98 #[.pointer (some ⟨B, 0, none⟩)] (Value.int .i64) (bitP k) (ints M) w := by
  intro W x hx hb
  obtain ⟨y, hy, rfl⟩ := List.mem_map.1 hx
  have hyb := hM y hy
  have hc' := (hb.cell (p := ⟨B, 0, none⟩) hB).trans hc
  have hbt := bit_test y k (by omega)
  clear hc hb hx hM hy
  show Calls Try.prog 98 #[.int .i64 (y : Int), .pointer (some ⟨B, 0, none⟩)] W _
  go_enter Try.func98, Try.ntmps98
  go_wp2_with fail
  go_ret
  exact ⟨ret_bool (by simpa [bitP] using hbt), (by repeat (first | exact Below.refl _ _ | assumption | refine Below.drew ?_ | refine below_drewN ?_ _ | refine Below.alloc ?_ (by first | omega | (simp <;> omega)) _ | refine Below.setCell ?_ (by first | omega | (simp <;> omega)) _ | refine Below.trans ?_ (Below.mono (by assumption) (by first | omega | (simp <;> omega)))))⟩
def elimP (k y : Nat) (M : List Nat) (n : Nat) : List Nat := M.mapIdx fun i x => if i < n then piv k y x else x
theorem elimP_len (k y : Nat) (M : List Nat) (n : Nat) : (elimP k y M n).length = M.length := by simp [elimP]
theorem elimP_zero (k y : Nat) (M : List Nat) : elimP k y M 0 = M := by apply List.ext_getElem <;> simp [elimP]
theorem elimP_end {k y : Nat} {M : List Nat} {n : Nat} (h : M.length ≤ n) : elimP k y M n = M.map (piv k y) := by
  apply List.ext_getElem
  · simp [elimP]
  · intro i h1 h2
    simp [elimP] at h1
    simp [elimP]
    intro hh; omega
theorem elimP_get {k y : Nat} {M : List Nat} {n : Nat} (h : n < M.length) : (elimP k y M n).getD n 0 = M.getD n 0 := by simp [elimP, List.getD, h]
theorem elimP_succ {k y : Nat} {M : List Nat} {n : Nat} (h : n < M.length) : elimP k y M (n + 1) = (elimP k y M n).set n (piv k y (M.getD n 0)) := by
  apply List.ext_getElem
  · simp [elimP]
  · intro i h1 h2
    simp [elimP] at h1
    rw [List.getElem_set]
    by_cases e : n = i
    · subst e; simp [elimP, List.getD, h]
    · simp [elimP, e]
      by_cases h3 : i < n
      · rw [if_pos (by omega), if_pos h3]
      · rw [if_neg (by omega), if_neg h3]
theorem elimP_same {k y : Nat} {M : List Nat} {n : Nat} (h : n < M.length) (hc : (M.getD n 0).testBit k = false) : elimP k y M (n + 1) = elimP k y M n := by
  rw [elimP_succ h, piv_of hc, ← elimP_get (k := k) (y := y) h]
  apply List.ext_getElem
  · simp
  · intro i h1 h2
    rw [List.getElem_set]
    split
    · next e2 => subst e2; simp [List.getD, h2]
    · rfl
theorem piv_bd {k y x : Nat} (hy : y ≤ 1023) (hx : x ≤ 1023) : piv k y x ≤ 1023 := by
  unfold piv
  split
  · have := Nat.xor_lt_two_pow (x := x) (y := y) (n := 10) (by omega) (by omega); omega
  · exact hx
theorem erase_mem {M : List Nat} {j : Nat} (hj : j < M.length) (x : Nat) : x ∈ M ↔ x = M.getD j 0 ∨ x ∈ M.eraseIdx j := by
  rw [getD_lt hj]
  constructor
  · intro h
    by_cases e : x = M[j]
    · exact .inl e
    · right
      obtain ⟨i, hi, rfl⟩ := List.mem_iff_getElem.1 h
      rw [List.mem_eraseIdx_iff_getElem]
      exact ⟨i, hi, fun e2 => e (by subst e2; rfl), rfl⟩
  · rintro (rfl | h)
    · exact List.getElem_mem _
    · exact List.mem_of_mem_eraseIdx h
set_option maxHeartbeats 2000000 in
theorem impl_rankOf_some (v : Value) (L : List Nat) (w : World) (h : RdI w v (ints L)) (h0 : 0 < L.length) (hn : L.length ≤ 1048576) (hb : ∀ r ∈ L, r ≤ 1023) :
    Calls Try.prog 89 #[v] w fun e w' => ∃ N : Nat, e = .returned (.int .i64 N) ∧ Left N 0 10 0 L ∧ Below w.heap.size w w' := by
  have H := Lib.hid h
  have eg := enters_of Try.func98 (by kernel_rfl) rfl
  have Eg := Lib.hid eg; clear eg
  obtain ⟨A, c, rfl, _⟩ := h.form
  clear h
  have HB := Lib.hid hb; clear hb
  obtain ⟨N, hN⟩ := Left.start L
  have HN := Lib.hid hN; have HN9 := Lib.hid hN; clear hN
  go_enter Try.func89, Try.ntmps89
  go_wp2_with fail
  refine (slices_Clone_any _ (ints L) _ H.out (by rw [ints_len]; exact hn)).mono ?_; rintro e w1 ⟨v1, rfl, ho, hb1⟩
  obtain ⟨g, cap, rfl, hg0, hg1⟩ := own_ints ho h0
  have Ho := Lib.hid (OwnN.of ho); clear ho
  go_wp2_with fail
  go_loopw [3, 4, 12] (fun sl rk bt wr => ∃ (k r n : Nat) (M : List Nat), k ≤ 10 ∧ r ≤ k ∧ n ≤ L.length ∧ bt = .int .i64 k ∧ rk = .int .i64 r ∧ sl = .slice (some ⟨g, 0, none⟩) n cap ∧ Hid (OwnN wr w.heap.size g n cap M) ∧ Hid (∀ x ∈ M, x ≤ 1023) ∧ Hid (Left N r (10 - k) k M) ∧ Below w.heap.size w wr) (fun _ _ i _ => 10 - (intOf i).toNat)
  case atStart => exact ⟨0, 0, L.length, L, by omega, by omega, by omega, rfl, rfl, rfl, Ho, HB, HN, hb1⟩
  case round =>
    obtain ⟨k, r, n, M, hk, hrk, hn1, rfl, rfl, rfl, hown, hbd, hleft, hbel⟩ := hrel
    clear Ho HB HN hb1
    have hM := hown.out.len
    have hM1 : n ≤ M.length := by omega
    have hM2 : M.length ≤ n := by omega
    have HM := Lib.hid hM; clear hM
    by_cases hlt : k < 10
    · have i1 : (k : Int) < 10 := by omega
      have hlw := hbel.size
      have bp := show Below w.heap.size w (wr.alloc (.cells #[.int .i64 (k : Int)] 3)) from (by repeat (first | exact Below.refl _ _ | assumption | refine Below.drew ?_ | refine below_drewN ?_ _ | refine Below.alloc ?_ (by first | omega | (simp <;> omega)) _ | refine Below.setCell ?_ (by first | omega | (simp <;> omega)) _ | refine Below.trans ?_ (Below.mono (by assumption) (by first | omega | (simp <;> omega)))))
      have own1 := Lib.hid (hown.out.below (show Below wr.heap.size wr (wr.alloc (.cells #[.int .i64 (k : Int)] 3)) from (by repeat (first | exact Below.refl _ _ | assumption | refine Below.drew ?_ | refine below_drewN ?_ _ | refine Below.alloc ?_ (by first | omega | (simp <;> omega)) _ | refine Below.setCell ?_ (by first | omega | (simp <;> omega)) _ | refine Below.trans ?_ (Below.mono (by assumption) (by first | omega | (simp <;> omega)))))) rfl)
      have hbox := Lib.hid (rankOf1_any wr.heap.size k M (wr.alloc (.cells #[.int .i64 (k : Int)] 3)) (by simp) (by simp) hlt hbd.out)
      go_wp2_with fail
      refine (slices_IndexFunc_ints _ _ (bitP k) Eg.out _ (ints M) _ own1.out.rd hbox.out).mono ?_; rintro e w2 ⟨rfl, hb2⟩
      have own2 := Lib.hid (own1.out.below hb2 rfl)
      have bel2 : Below w.heap.size w w2 := below_step bp hb2
      have hcb := below_cell hb2 rfl (show (wr.alloc (.cells #[.int .i64 (k : Int)] 3)).cell? ⟨wr.heap.size, 0, none⟩ = some (.int .i64 (k : Int)) from by simp)
      have hne : wr.heap.size ≠ g := by have := hown.out.lt; omega
      clear bp own1 hbox hb2 hown hbel
      rcases idxI_cases (bitP k) (ints M) with ⟨hi, hall⟩ | ⟨j, hi, hj, hpj, _⟩
      · rw [hi]
        have Hall := Lib.hid hall; clear hall hi
        go_wp2_with fail
        go_roundw
        case rel =>
          refine ⟨k + 1, r, n, M, by omega, by omega, by omega, by go_num, rfl, rfl, own2, hbd, ?_, bel2⟩
          exact Left.skip (show Left N r ((10 - (k + 1)) + 1) k M from by rw [show 10 - (k + 1) + 1 = 10 - k from by omega]; exact hleft.out) (fun x hx => by
            have := Hall.out (x : Int) (List.mem_map_of_mem hx); simpa [bitP] using this)
        case measure => simp [intOf]; omega
      · rw [hi]
        rw [ints_len] at hj
        have hjn : j < n := by omega
        obtain ⟨y, hy⟩ : ∃ y, y = M.getD j 0 := ⟨_, rfl⟩
        have hyb : y ≤ 1023 := by rw [hy]; exact getD_bd hbd.out
        have hyt : y.testBit k = true := by rw [hy, getD_lt hj]; simpa [bitP, ints] using hpj
        have hcell := own_int_cell own2.out j hj
        rw [← hy] at hcell
        have i2 : (j : Int) < (n : Int) := by omega
        have hL := Lib.hid (show Left N (r + 1) (10 - (k + 1)) (k + 1) ((M.eraseIdx j).map (piv k y)) from
          Left.take (show Left N r ((10 - (k + 1)) + 1) k M from by rw [show 10 - (k + 1) + 1 = 10 - k from by omega]; exact hleft.out) hyt (by rw [hy]; exact erase_mem hj))
        have HRb := Lib.hid (show ∀ x ∈ M.eraseIdx j, x ≤ 1023 from fun x hx => hbd.out x (List.mem_of_mem_eraseIdx hx))
        clear hi hpj hy hyt hleft hbd
        go_wp2_with fail
        refine (slices_Delete_one g n cap j w.heap.size M w2 w own2.out hjn (by omega) bel2).mono ?_; rintro e w3 ⟨rfl, own3, bel3, hfar⟩
        have Own3 := Lib.hid own3; clear own3
        have hcb3 : w3.cell? ⟨wr.heap.size, 0, none⟩ = some (.int .i64 (k : Int)) := hfar _ _ _ hne hcb
        clear hfar
        have hjk : j < M.length := by omega
        obtain ⟨R, hR⟩ : ∃ R, R = M.eraseIdx j := ⟨_, rfl⟩
        have hRl : R.length = n - 1 := by rw [hR, List.length_eraseIdx, if_pos hjk, HM.out]
        have hRl1 : n - 1 ≤ R.length := by omega
        have hRl2 : R.length ≤ n - 1 := by omega
        have HRl := Lib.hid hRl
        rw [← hR] at hL HRb Own3
        have own4 : Hid (OwnN w3 w.heap.size g (n - 1) cap (elimP k y R 0)) := (show OwnN _ _ _ _ _ _ from by rw [elimP_zero]; exact Own3.out)
        clear hR hRl hcell hcb Own3 own2 bel2
        go_wp2_with fail
        go_loopw [8, 9, 31] (fun _ _ i wq => ∃ q : Nat, q ≤ n - 1 ∧ i = .int .i64 q ∧ wq.cell? ⟨wr.heap.size, 0, none⟩ = some (.int .i64 (k : Int)) ∧ Hid (OwnN wq w.heap.size g (n - 1) cap (elimP k y R q)) ∧ Below w.heap.size w wq) (fun _ _ i _ => (n - 1) - (intOf i).toNat)
        case atStart => exact ⟨0, by omega, rfl, hcb3, own4, bel3⟩
        case round =>
          obtain ⟨q, hq, rfl, hcq, hown5, hbel5⟩ := hrel
          clear own4 bel3 hcb3
          by_cases hql : q < n - 1
          · have hcell := own_int_cell hown5.out q (by rw [elimP_len]; omega)
            rw [elimP_get (by omega)] at hcell
            have hfq := hown5.out.frz q
            obtain ⟨x, hx⟩ : ∃ x, x = R.getD q 0 := ⟨_, rfl⟩
            rw [← hx] at hcell
            have hxb : x ≤ 1023 := by rw [hx]; exact getD_bd HRb.out
            have hbt2 := bit_test x k (by omega)
            have hxo := bits_xor x y (by omega) (by omega)
            have Hx := Lib.hid hx; clear hx
            have i4 : (q : Int) < ((n - 1 : Nat) : Int) := by omega
            cases hxt : x.testBit k with
            | false =>
              rw [hxt] at hbt2
              have hk : Hid (elimP k y R (q + 1) = elimP k y R q) := elimP_same (by omega) (by rw [← Hx.out]; exact hxt)
              clear hxt
              go_wp2_with fail
              go_roundw
              case rel => exact ⟨q + 1, by omega, by go_num, hcq, (show OwnN _ _ _ _ _ _ from by rw [hk.out]; exact hown5.out), hbel5⟩
              case measure => simp [intOf]; omega
            | true =>
              rw [hxt] at hbt2
              have hk : Hid (elimP k y R (q + 1) = (elimP k y R q).set q (x ^^^ y)) := by
                show _ = _
                rw [elimP_succ (by omega), ← Hx.out]; simp [piv, hxt]
              clear hxt
              go_wp2_with fail
              go_roundw
              case rel => exact ⟨q + 1, by omega, by go_num, (World.cell?_setCell_other _ _ _ _ (fun h => hne (by injection h with h _ _; exact h.symm))).trans hcq, (show OwnN _ _ _ _ _ _ from by rw [hk.out]; exact hown5.out.set q (x ^^^ y)), (by repeat (first | exact Below.refl _ _ | assumption | refine Below.drew ?_ | refine below_drewN ?_ _ | refine Below.alloc ?_ (by first | omega | (simp <;> omega)) _ | refine Below.setCell ?_ (by first | omega | (simp <;> omega)) _ | refine Below.trans ?_ (Below.mono (by assumption) (by first | omega | (simp <;> omega)))))⟩
              case measure => simp [intOf]; omega
          · have e : q = n - 1 := by omega
            subst e
            go_wp2_with fail
            go_roundw
            case rel => exact ⟨k + 1, r + 1, n - 1, elimP k y R (n - 1), by omega, by omega, by omega, by go_num, by go_num, rfl, hown5, (show ∀ x ∈ elimP k y R (n - 1), x ≤ 1023 from by
                rw [elimP_end (by omega)]; intro x hx; obtain ⟨z, hz, rfl⟩ := List.mem_map.1 hx; exact piv_bd hyb (HRb.out z hz)), (show Left _ _ _ _ _ from by rw [elimP_end (by omega)]; exact hL.out), hbel5⟩
            case measure => simp [intOf]; omega
    · have e : k = 10 := by omega
      subst e
      go_wp2_with fail
      go_ret
      refine ⟨r, rfl, ?_, hbel⟩; have h9 := Left.done (show Left N r 0 10 M from hleft.out); subst h9; exact HN9.out
/-- The rank of rows. -/
noncomputable def rk (L : List Nat) : Nat := Classical.choose (Left.start L)
theorem rk_eq {L : List Nat} {N : Nat} (h : Left N 0 10 0 L) : N = rk L := by
  have h2 := Classical.choose_spec (Left.start L)
  obtain ⟨n, hn, rfl⟩ := h
  obtain ⟨m, hm, e⟩ := h2
  rw [show rk L = Classical.choose (Left.start L) from rfl, e, hn.uniq hm]
theorem rk_nil : rk [] = 0 := by
  have h : ∀ f b, Rank f b [] 0 := by
    intro f
    induction f with
    | zero => intro b; exact .nil
    | succ f ih => intro b; exact .skip (by simp) (ih (b + 1))
  exact (rk_eq ⟨0, h 10 0, rfl⟩).symm
theorem nat_of_ints {zs : List Int} (h : ∀ z ∈ zs, 0 ≤ z) : zs = ints (zs.map Int.toNat) := by
  apply List.ext_getElem
  · simp [ints]
  · intro i h1 h2
    simp [ints]
    have := h zs[i] (List.getElem_mem h1)
    omega
end Go.Proofs.Ytbcjligkjoimmaa
namespace Go.Proofs.Ytbcjligkjoimmaa
set_option linter.unusedSimpArgs false
set_option linter.unusedVariables false
set_option linter.unnecessarySimpa false
set_option maxRecDepth 200000
open Go.ChangeShapes Go.WideShapes Go.ChangeAt Go.RowKit

set_option maxHeartbeats 1000000 in
theorem spec_l12Rank_none (v : Value) (w : World) (h : RdI w v []) :
    Calls Try.prog 85 #[v] w fun e w' => e = .returned (.int .i64 0) ∧ Below w.heap.size w w' := by
  have H := Lib.hid h
  go_enter Try.func85, Try.ntmps85
  go_wp2_with fail
  refine (spec_l1Own_any _ [] _ H.out (by simp)).mono ?_; rintro e w1 ⟨v1, rfl, ho, hb1⟩
  obtain ⟨a, cap, rfl⟩ := ho.forms
  clear ho
  go_wp2_with fail
  go_loop [4, 5] (fun r bt => ∃ k : Nat, k ≤ 10 ∧ r = .int .i64 0 ∧ bt = .int .i64 k) (fun _ i => 10 - (intOf i).toNat)
  case atStart => exact ⟨0, by omega, rfl, rfl⟩
  case round =>
    obtain ⟨k, hk, rfl, rfl⟩ := hrel
    by_cases hlt : k < 10
    · have i1 : (k : Int) < 10 := by omega
      go_wp2_with fail
      refine wp_loop_rounds 1 ?_
      rw [rounds_succ]
      go_wp2_with fail
      go_round
      case rel => exact ⟨k + 1, by omega, rfl, by go_num⟩
      case measure => simp [intOf]; omega
    · have e : k = 10 := by omega
      subst e
      go_wp2_with fail
      go_ret
      exact ⟨rfl, hb1⟩
set_option maxHeartbeats 1000000 in
theorem impl_rankOf_none (v : Value) (w : World) (h : RdI w v []) :
    Calls Try.prog 89 #[v] w fun e w' => e = .returned (.int .i64 0) ∧ Below w.heap.size w w' := by
  have H := Lib.hid h
  have eg := enters_of Try.func98 (by kernel_rfl) rfl
  have Eg := Lib.hid eg; clear eg
  go_enter Try.func89, Try.ntmps89
  go_wp2_with fail
  refine (slices_Clone_any _ [] _ H.out (by simp)).mono ?_; rintro e w1 ⟨v1, rfl, ho, hb1⟩
  obtain ⟨a, cap, rfl⟩ := ho.forms
  clear ho
  go_wp2_with fail
  go_loopw [3, 4, 12] (fun s r bt wr => ∃ k : Nat, k ≤ 10 ∧ s = .slice a 0 cap ∧ r = .int .i64 0 ∧ bt = .int .i64 k ∧ Below w.heap.size w wr) (fun _ _ i _ => 10 - (intOf i).toNat)
  case atStart => exact ⟨0, by omega, rfl, rfl, rfl, hb1⟩
  case round =>
    obtain ⟨k, hk, rfl, rfl, rfl, hbel⟩ := hrel
    clear hb1
    by_cases hlt : k < 10
    · have i1 : (k : Int) < 10 := by omega
      have hlw := hbel.size
      have hrd := Lib.hid (fun W : World => (show RdI W (.slice a 0 cap) [] from ⟨rfl, .inl ⟨⟨_, _, rfl⟩, rfl⟩⟩))
      go_wp2_with fail
      refine (slices_IndexFunc_ints _ _ (fun _ => true) Eg.out _ [] _ (hrd.out _) (fun W x hx => by cases hx)).mono ?_; rintro e w2 ⟨rfl, hb2⟩
      have bel2 : Below w.heap.size w w2 := (by repeat (first | exact Below.refl _ _ | assumption | refine Below.drew ?_ | refine below_drewN ?_ _ | refine Below.alloc ?_ (by first | omega | (simp <;> omega)) _ | refine Below.setCell ?_ (by first | omega | (simp <;> omega)) _ | refine Below.trans ?_ (Below.mono (by assumption) (by first | omega | (simp <;> omega)))))
      clear hb2
      rw [show idxI (fun _ : Int => true) [] = -1 from rfl]
      go_wp2_with fail
      go_roundw
      case rel => exact ⟨k + 1, by omega, rfl, rfl, by go_num, bel2⟩
      case measure => simp [intOf]; omega
    · have e : k = 10 := by omega
      subst e
      go_wp2_with fail
      go_ret
      exact ⟨rfl, hbel⟩
/-- The rank of rows of whole numbers. -/
noncomputable def rkI (zs : List Int) : Nat := rk (zs.map Int.toNat)
theorem spec_l12Rank_any (v : Value) (zs : List Int) (w : World) (h : RdI w v zs) (hn : zs.length ≤ 1048576) (hb : ∀ z ∈ zs, 0 ≤ z ∧ z ≤ 1023) :
    Calls Try.prog 85 #[v] w fun e w' => e = .returned (.int .i64 (rkI zs)) ∧ Below w.heap.size w w' := by
  rcases Nat.eq_zero_or_pos zs.length with h0 | h0
  · have e : zs = [] := List.eq_nil_of_length_eq_zero h0
    subst e
    exact (spec_l12Rank_none v w h).mono fun e w' hh => ⟨by rw [hh.1]; simp [rkI, rk_nil], hh.2⟩
  · have hz := nat_of_ints (fun z hz => (hb z hz).1)
    refine (spec_l12Rank_some v (zs.map Int.toNat) w (by rw [← hz]; exact h) (by simpa using h0) (by simpa using hn) ?_).mono ?_
    · intro r hr
      obtain ⟨z, hz, rfl⟩ := List.mem_map.1 hr
      have := hb z hz; omega
    · rintro e w' ⟨N, rfl, hN, hb⟩
      exact ⟨by rw [rk_eq hN]; rfl, hb⟩
theorem impl_rankOf_any (v : Value) (zs : List Int) (w : World) (h : RdI w v zs) (hn : zs.length ≤ 1048576) (hb : ∀ z ∈ zs, 0 ≤ z ∧ z ≤ 1023) :
    Calls Try.prog 89 #[v] w fun e w' => e = .returned (.int .i64 (rkI zs)) ∧ Below w.heap.size w w' := by
  rcases Nat.eq_zero_or_pos zs.length with h0 | h0
  · have e : zs = [] := List.eq_nil_of_length_eq_zero h0
    subst e
    exact (impl_rankOf_none v w h).mono fun e w' hh => ⟨by rw [hh.1]; simp [rkI, rk_nil], hh.2⟩
  · have hz := nat_of_ints (fun z hz => (hb z hz).1)
    refine (impl_rankOf_some v (zs.map Int.toNat) w (by rw [← hz]; exact h) (by simpa using h0) (by simpa using hn) ?_).mono ?_
    · intro r hr
      obtain ⟨z, hz, rfl⟩ := List.mem_map.1 hr
      have := hb z hz; omega
    · rintro e w' ⟨N, rfl, hN, hb⟩
      exact ⟨by rw [rk_eq hN]; rfl, hb⟩
/-- What RankOf answers. -/
noncomputable def rankA (zs : List Int) : Int × Bool := if zs.length ≤ 64 ∧ allIn zs 0 1023 = true then ((rkI zs : Int), true) else (0, false)
theorem allIn_iff {zs : List Int} {lo hi : Int} : allIn zs lo hi = true ↔ ∀ z ∈ zs, lo ≤ z ∧ z ≤ hi := by simp [allIn]
theorem any_not {zs : List Int} {lo hi : Int} : zs.any (fun z => !decide (lo ≤ z ∧ z ≤ hi)) = !allIn zs lo hi := by
  simp [allIn, List.any_eq_not_all_not]
end Go.Proofs.Ytbcjligkjoimmaa
