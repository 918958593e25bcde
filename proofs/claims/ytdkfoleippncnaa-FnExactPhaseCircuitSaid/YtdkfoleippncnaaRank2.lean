/- The rank over GF(2), in the program. -/
import Derived.Test.YtdkfoleippncnaaDel
import Derived.Test.YtdkfoleippncnaaSpan2
import Derived.Test.YtdkfoleippncnaaBits
import Derived.Shelf.Abstract
namespace Go.Proofs.Ytdkfoleippncnaa
set_option linter.unusedSimpArgs false
set_option linter.unusedVariables false
set_option linter.unnecessarySimpa false
set_option maxRecDepth 200000
open Go.ChangeShapes Go.WideShapes Go.ChangeAt Go.RowKit

def bitP (k : Nat) (z : Int) : Bool := z.toNat.testBit k
theorem rankOf1_any (B k : Nat) (M : List Nat) (w : World) (hB : B < w.heap.size) (hc : w.cell? ⟨B, 0, none⟩ = some (.int .i64 (k : Int))) (hk : k < 10) (hM : ∀ x ∈ M, x ≤ 1023) :
    PredB 163 #[.pointer (some ⟨B, 0, none⟩)] (Value.int .i64) (bitP k) (ints M) w := by
  intro W x hx hb
  obtain ⟨y, hy, rfl⟩ := List.mem_map.1 hx
  have hyb := hM y hy
  have hc' := (hb.cell (p := ⟨B, 0, none⟩) hB).trans hc
  have hbt := bit_test y k (by omega)
  clear hc hb hx hM hy
  show Calls Try.prog 163 #[.int .i64 (y : Int), .pointer (some ⟨B, 0, none⟩)] W _
  go_enter Try.func163, Try.ntmps163
  go_wp2_with fail
  go_ret
  exact ⟨ret_bool (by simpa [bitP] using hbt), (by repeat (first | exact Below.refl _ _ | assumption | refine Below.drew ?_ | refine below_drewN ?_ _ | refine Below.alloc ?_ (by first | omega | (simp <;> omega)) _ | refine Below.setCell ?_ (by first | omega | (simp <;> omega)) _ | refine Below.trans ?_ (Below.mono (by assumption) (by first | omega | (simp <;> omega)))))⟩
def elimP (k y : Nat) (M : List Nat) (n : Nat) : List Nat := M.mapIdx fun i x => if i < n then piv k y x else x
theorem elimP_len (k y : Nat) (M : List Nat) (n : Nat) : (elimP k y M n).length = M.length := by simp [elimP]
theorem elimP_zero (k y : Nat) (M : List Nat) : elimP k y M 0 = M := by apply List.ext_getElem <;> simp [elimP]
theorem elimP_end {k y : Nat} {M : List Nat} {n : Nat} (h : M.length ≤ n) : elimP k y M n = M.map (piv k y) := by
  apply List.ext_getElem
  · simp [elimP]
  · intro i h1 h2
    simp [elimP] at h1
    simp [elimP]
    intro hh; omega
theorem elimP_get {k y : Nat} {M : List Nat} {n : Nat} (h : n < M.length) : (elimP k y M n).getD n 0 = M.getD n 0 := by simp [elimP, List.getD, h]
theorem elimP_succ {k y : Nat} {M : List Nat} {n : Nat} (h : n < M.length) : elimP k y M (n + 1) = (elimP k y M n).set n (piv k y (M.getD n 0)) := by
  apply List.ext_getElem
  · simp [elimP]
  · intro i h1 h2
    simp [elimP] at h1
    rw [List.getElem_set]
    by_cases e : n = i
    · subst e; simp [elimP, List.getD, h]
    · simp [elimP, e]
      by_cases h3 : i < n
      · rw [if_pos (by omega), if_pos h3]
      · rw [if_neg (by omega), if_neg h3]
theorem elimP_same {k y : Nat} {M : List Nat} {n : Nat} (h : n < M.length) (hc : (M.getD n 0).testBit k = false) : elimP k y M (n + 1) = elimP k y M n := by
  rw [elimP_succ h, piv_of hc, ← elimP_get (k := k) (y := y) h]
  apply List.ext_getElem
  · simp
  · intro i h1 h2
    rw [List.getElem_set]
    split
    · next e2 => subst e2; simp [List.getD, h2]
    · rfl
theorem piv_bd {k y x : Nat} (hy : y ≤ 1023) (hx : x ≤ 1023) : piv k y x ≤ 1023 := by
  unfold piv
  split
  · have := Nat.xor_lt_two_pow (x := x) (y := y) (n := 10) (by omega) (by omega); omega
  · exact hx
theorem erase_mem {M : List Nat} {j : Nat} (hj : j < M.length) (x : Nat) : x ∈ M ↔ x = M.getD j 0 ∨ x ∈ M.eraseIdx j := by
  rw [getD_lt hj]
  constructor
  · intro h
    by_cases e : x = M[j]
    · exact .inl e
    · right
      obtain ⟨i, hi, rfl⟩ := List.mem_iff_getElem.1 h
      rw [List.mem_eraseIdx_iff_getElem]
      exact ⟨i, hi, fun e2 => e (by subst e2; rfl), rfl⟩
  · rintro (rfl | h)
    · exact List.getElem_mem _
    · exact List.mem_of_mem_eraseIdx h
set_option maxHeartbeats 2000000 in
theorem impl_rankOf_some (v : Value) (L : List Nat) (w : World) (h : RdI w v (ints L)) (h0 : 0 < L.length) (hn : L.length ≤ 1048576) (hb : ∀ r ∈ L, r ≤ 1023) :
    Calls Try.prog 150 #[v] w fun e w' => ∃ N : Nat, e = .returned (.int .i64 N) ∧ Left N 0 10 0 L ∧ Below w.heap.size w w' := by
  have H := Lib.hid h
  have eg := enters_of Try.func163 (by kernel_rfl) rfl
  have Eg := Lib.hid eg; clear eg
  obtain ⟨A, c, rfl, _⟩ := h.form
  clear h
  have HB := Lib.hid hb; clear hb
  obtain ⟨N, hN⟩ := Left.start L
  have HN := Lib.hid hN; have HN9 := Lib.hid hN; clear hN
  go_enter Try.func150, Try.ntmps150
  go_wp2_with fail
  refine (slices_Clone_any _ (ints L) _ H.out (by rw [ints_len]; exact hn)).mono ?_; rintro e w1 ⟨v1, rfl, ho, hb1⟩
  obtain ⟨g, cap, rfl, hg0, hg1⟩ := own_ints ho h0
  have Ho := Lib.hid (OwnN.of ho); clear ho
  go_wp2_with fail
  go_loopw [3, 4, 12] (fun sl rk bt wr => ∃ (k r n : Nat) (M : List Nat), k ≤ 10 ∧ r ≤ k ∧ n ≤ L.length ∧ bt = .int .i64 k ∧ rk = .int .i64 r ∧ sl = .slice (some ⟨g, 0, none⟩) n cap ∧ Hid (OwnN wr w.heap.size g n cap M) ∧ Hid (∀ x ∈ M, x ≤ 1023) ∧ Hid (Left N r (10 - k) k M) ∧ Below w.heap.size w wr) (fun _ _ i _ => 10 - (intOf i).toNat)
  case atStart => exact ⟨0, 0, L.length, L, by omega, by omega, by omega, rfl, rfl, rfl, Ho, HB, HN, hb1⟩
  case round =>
    obtain ⟨k, r, n, M, hk, hrk, hn1, rfl, rfl, rfl, hown, hbd, hleft, hbel⟩ := hrel
    clear Ho HB HN hb1
    have hM := hown.out.len
    have hM1 : n ≤ M.length := by omega
    have hM2 : M.length ≤ n := by omega
    have HM := Lib.hid hM; clear hM
    by_cases hlt : k < 10
    · have i1 : (k : Int) < 10 := by omega
      have hlw := hbel.size
      have bp := show Below w.heap.size w (wr.alloc (.cells #[.int .i64 (k : Int)] 3)) from (by repeat (first | exact Below.refl _ _ | assumption | refine Below.drew ?_ | refine below_drewN ?_ _ | refine Below.alloc ?_ (by first | omega | (simp <;> omega)) _ | refine Below.setCell ?_ (by first | omega | (simp <;> omega)) _ | refine Below.trans ?_ (Below.mono (by assumption) (by first | omega | (simp <;> omega)))))
      have own1 := Lib.hid (hown.out.below (show Below wr.heap.size wr (wr.alloc (.cells #[.int .i64 (k : Int)] 3)) from (by repeat (first | exact Below.refl _ _ | assumption | refine Below.drew ?_ | refine below_drewN ?_ _ | refine Below.alloc ?_ (by first | omega | (simp <;> omega)) _ | refine Below.setCell ?_ (by first | omega | (simp <;> omega)) _ | refine Below.trans ?_ (Below.mono (by assumption) (by first | omega | (simp <;> omega)))))) rfl)
      have hbox := Lib.hid (rankOf1_any wr.heap.size k M (wr.alloc (.cells #[.int .i64 (k : Int)] 3)) (by simp) (by simp) hlt hbd.out)
      go_wp2_with fail
      refine (slices_IndexFunc_ints _ _ (bitP k) Eg.out _ (ints M) _ own1.out.rd hbox.out).mono ?_; rintro e w2 ⟨rfl, hb2⟩
      have own2 := Lib.hid (own1.out.below hb2 rfl)
      have bel2 : Below w.heap.size w w2 := below_step bp hb2
      have hcb := below_cell hb2 rfl (show (wr.alloc (.cells #[.int .i64 (k : Int)] 3)).cell? ⟨wr.heap.size, 0, none⟩ = some (.int .i64 (k : Int)) from by simp)
      have hne : wr.heap.size ≠ g := by have := hown.out.lt; omega
      clear bp own1 hbox hb2 hown hbel
      rcases idxI_cases (bitP k) (ints M) with ⟨hi, hall⟩ | ⟨j, hi, hj, hpj, _⟩
      · rw [hi]
        have Hall := Lib.hid hall; clear hall hi
        go_wp2_with fail
        go_roundw
        case rel =>
          refine ⟨k + 1, r, n, M, by omega, by omega, by omega, by go_num, rfl, rfl, own2, hbd, ?_, bel2⟩
          exact Left.skip (show Left N r ((10 - (k + 1)) + 1) k M from by rw [show 10 - (k + 1) + 1 = 10 - k from by omega]; exact hleft.out) (fun x hx => by
            have := Hall.out (x : Int) (List.mem_map_of_mem hx); simpa [bitP] using this)
        case measure => simp [intOf]; omega
      · rw [hi]
        rw [ints_len] at hj
        have hjn : j < n := by omega
        obtain ⟨y, hy⟩ : ∃ y, y = M.getD j 0 := ⟨_, rfl⟩
        have hyb : y ≤ 1023 := by rw [hy]; exact getD_bd hbd.out
        have hyt : y.testBit k = true := by rw [hy, getD_lt hj]; simpa [bitP, ints] using hpj
        have hcell := own_int_cell own2.out j hj
        rw [← hy] at hcell
        have i2 : (j : Int) < (n : Int) := by omega
        have hL := Lib.hid (show Left N (r + 1) (10 - (k + 1)) (k + 1) ((M.eraseIdx j).map (piv k y)) from
          Left.take (show Left N r ((10 - (k + 1)) + 1) k M from by rw [show 10 - (k + 1) + 1 = 10 - k from by omega]; exact hleft.out) hyt (by rw [hy]; exact erase_mem hj))
        have HRb := Lib.hid (show ∀ x ∈ M.eraseIdx j, x ≤ 1023 from fun x hx => hbd.out x (List.mem_of_mem_eraseIdx hx))
        clear hi hpj hy hyt hleft hbd
        go_wp2_with fail
        refine (slices_Delete_one g n cap j w.heap.size M w2 w own2.out hjn (by omega) bel2).mono ?_; rintro e w3 ⟨rfl, own3, bel3, hfar⟩
        have Own3 := Lib.hid own3; clear own3
        have hcb3 : w3.cell? ⟨wr.heap.size, 0, none⟩ = some (.int .i64 (k : Int)) := hfar _ _ _ hne hcb
        clear hfar
        have hjk : j < M.length := by omega
        obtain ⟨R, hR⟩ : ∃ R, R = M.eraseIdx j := ⟨_, rfl⟩
        have hRl : R.length = n - 1 := by rw [hR, List.length_eraseIdx, if_pos hjk, HM.out]
        have hRl1 : n - 1 ≤ R.length := by omega
        have hRl2 : R.length ≤ n - 1 := by omega
        have HRl := Lib.hid hRl
        rw [← hR] at hL HRb Own3
        have own4 : Hid (OwnN w3 w.heap.size g (n - 1) cap (elimP k y R 0)) := (show OwnN _ _ _ _ _ _ from by rw [elimP_zero]; exact Own3.out)
        clear hR hRl hcell hcb Own3 own2 bel2
        go_wp2_with fail
        go_loopw [8, 9, 31] (fun _ _ i wq => ∃ q : Nat, q ≤ n - 1 ∧ i = .int .i64 q ∧ wq.cell? ⟨wr.heap.size, 0, none⟩ = some (.int .i64 (k : Int)) ∧ Hid (OwnN wq w.heap.size g (n - 1) cap (elimP k y R q)) ∧ Below w.heap.size w wq) (fun _ _ i _ => (n - 1) - (intOf i).toNat)
        case atStart => exact ⟨0, by omega, rfl, hcb3, own4, bel3⟩
        case round =>
          obtain ⟨q, hq, rfl, hcq, hown5, hbel5⟩ := hrel
          clear own4 bel3 hcb3
          by_cases hql : q < n - 1
          · have hcell := own_int_cell hown5.out q (by rw [elimP_len]; omega)
            rw [elimP_get (by omega)] at hcell
            have hfq := hown5.out.frz q
            obtain ⟨x, hx⟩ : ∃ x, x = R.getD q 0 := ⟨_, rfl⟩
            rw [← hx] at hcell
            have hxb : x ≤ 1023 := by rw [hx]; exact getD_bd HRb.out
            have hbt2 := bit_test x k (by omega)
            have hxo := bits_xor x y (by omega) (by omega)
            have Hx := Lib.hid hx; clear hx
            have i4 : (q : Int) < ((n - 1 : Nat) : Int) := by omega
            cases hxt : x.testBit k with
            | false =>
              rw [hxt] at hbt2
              have hk : Hid (elimP k y R (q + 1) = elimP k y R q) := elimP_same (by omega) (by rw [← Hx.out]; exact hxt)
              clear hxt
              go_wp2_with fail
              go_roundw
              case rel => exact ⟨q + 1, by omega, by go_num, hcq, (show OwnN _ _ _ _ _ _ from by rw [hk.out]; exact hown5.out), hbel5⟩
              case measure => simp [intOf]; omega
            | true =>
              rw [hxt] at hbt2
              have hk : Hid (elimP k y R (q + 1) = (elimP k y R q).set q (x ^^^ y)) := by
                show _ = _
                rw [elimP_succ (by omega), ← Hx.out]; simp [piv, hxt]
              clear hxt
              go_wp2_with fail
              go_roundw
              case rel => exact ⟨q + 1, by omega, by go_num, (World.cell?_setCell_other _ _ _ _ (fun h => hne (by injection h with h _ _; exact h.symm))).trans hcq, (show OwnN _ _ _ _ _ _ from by rw [hk.out]; exact hown5.out.set q (x ^^^ y)), (by repeat (first | exact Below.refl _ _ | assumption | refine Below.drew ?_ | refine below_drewN ?_ _ | refine Below.alloc ?_ (by first | omega | (simp <;> omega)) _ | refine Below.setCell ?_ (by first | omega | (simp <;> omega)) _ | refine Below.trans ?_ (Below.mono (by assumption) (by first | omega | (simp <;> omega)))))⟩
              case measure => simp [intOf]; omega
          · have e : q = n - 1 := by omega
            subst e
            go_wp2_with fail
            go_roundw
            case rel => exact ⟨k + 1, r + 1, n - 1, elimP k y R (n - 1), by omega, by omega, by omega, by go_num, by go_num, rfl, hown5, (show ∀ x ∈ elimP k y R (n - 1), x ≤ 1023 from by
                rw [elimP_end (by omega)]; intro x hx; obtain ⟨z, hz, rfl⟩ := List.mem_map.1 hx; exact piv_bd hyb (HRb.out z hz)), (show Left _ _ _ _ _ from by rw [elimP_end (by omega)]; exact hL.out), hbel5⟩
            case measure => simp [intOf]; omega
    · have e : k = 10 := by omega
      subst e
      go_wp2_with fail
      go_ret
      refine ⟨r, rfl, ?_, hbel⟩; have h9 := Left.done (show Left N r 0 10 M from hleft.out); subst h9; exact HN9.out
/-- The rank of rows. -/
noncomputable def rk (L : List Nat) : Nat := Classical.choose (Left.start L)
theorem rk_eq {L : List Nat} {N : Nat} (h : Left N 0 10 0 L) : N = rk L := by
  have h2 := Classical.choose_spec (Left.start L)
  obtain ⟨n, hn, rfl⟩ := h
  obtain ⟨m, hm, e⟩ := h2
  rw [show rk L = Classical.choose (Left.start L) from rfl, e, hn.uniq hm]
theorem rk_nil : rk [] = 0 := by
  have h : ∀ f b, Rank f b [] 0 := by
    intro f
    induction f with
    | zero => intro b; exact .nil
    | succ f ih => intro b; exact .skip (by simp) (ih (b + 1))
  exact (rk_eq ⟨0, h 10 0, rfl⟩).symm
theorem nat_of_ints {zs : List Int} (h : ∀ z ∈ zs, 0 ≤ z) : zs = ints (zs.map Int.toNat) := by
  apply List.ext_getElem
  · simp [ints]
  · intro i h1 h2
    simp [ints]
    have := h zs[i] (List.getElem_mem h1)
    omega
end Go.Proofs.Ytdkfoleippncnaa
