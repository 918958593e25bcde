/- The program's split, inAll and branchOn. -/
import Derived.Test.YtgonldkgghikiaaGr1
import Derived.Test.YtgonldkgghikiaaSl
namespace Go.Proofs.Ytgonldkgghikiaa
set_option linter.unusedSimpArgs false
set_option linter.unusedVariables false
set_option linter.unnecessarySimpa false
set_option maxRecDepth 200000
open Go.ChangeShapes Go.WideShapes Go.ChangeAt Go.RowKit

theorem Fam.swap {w : World} {B : Nat} {a b : Row} {R : List Row} (h : Fam w B (a :: b :: R)) : Fam w B (b :: a :: R) := h.perm (List.Perm.swap b a R)
theorem nrow_nil_own (w : World) (B : Nat) (v : Value) (h : w.ownsRow B 3 1 v 0 []) : Row.own w B (nrow v []) := h
set_option maxHeartbeats 8000000 in
theorem impl_split_any (j : Nat) (v : Value) (vs : List Nat) (w : World) (h : RdI w v (ints vs)) (hs : Sm vs) (hj : j < 5) :
    Calls Try.prog 49 #[v, .int .i64 (j : Int)] w fun e w' => ∃ u1 u2, e = .returned (.tuple #[u1, u2]) ∧ Fam w' w.heap.size [nrow u1 (gSet vs j true), nrow u2 (gSet vs j false)] ∧ Below w.heap.size w w' := by
  obtain ⟨j0, hjj, hy0, hy1, hy2⟩ := info_parts info_int
  obtain ⟨A, c, rfl, Hc⟩ := num_at h
  have HS := Lib.hid hs.2
  have hl := hs.1
  clear h hs
  have F0 : Hid (Fam ((w.alloc (.cells #[] 3)).alloc (.cells #[] 3)) w.heap.size [nrow (.slice (some ⟨w.heap.size, 0, none⟩) 0 0) (gSet (vs.take 0) j true), nrow (.slice (some ⟨w.heap.size + 1, 0, none⟩) 0 0) (gSet (vs.take 0) j false)]) := by
    have o1 := own_lit0 (α := Int) (f := fun _ => []) (sz := 1) w w.heap.size 3 w.heap.size rfl (Nat.le_refl _)
    have o2 := own_lit0 (α := Int) (f := fun _ => []) (sz := 1) (w.alloc (.cells #[] 3)) w.heap.size 3 (w.heap.size + 1) (by simp) (by omega)
    refine (show Fam _ _ _ from ⟨fun r hr => ?_, ?_⟩)
    · simp only [List.mem_cons, List.not_mem_nil, or_false] at hr
      rcases hr with rfl | rfl
      · exact own_below o1 (show Below (w.alloc (.cells #[] 3)).heap.size (w.alloc (.cells #[] 3)) ((w.alloc (.cells #[] 3)).alloc (.cells #[] 3)) from Below.alloc (Below.refl _ _) (Nat.le_refl _) _) rfl
      · exact o2
    · rw [List.pairwise_cons]
      refine ⟨fun x hx g e1 e2 => ?_, List.pairwise_singleton _ _⟩
      simp only [List.mem_singleton] at hx
      subst hx
      have h1 : w.heap.size = g := by simpa [nrow, Value.ownBlock] using e1
      have h2 : w.heap.size + 1 = g := by simpa [nrow, Value.ownBlock] using e2
      omega
  have B0 : Hid (Below w.heap.size w ((w.alloc (.cells #[] 3)).alloc (.cells #[] 3))) := (show Below _ _ _ from (by repeat (first | exact Below.refl _ _ | assumption | refine Below.drew ?_ | refine below_drewN ?_ _ | refine Below.alloc ?_ (by first | omega | (simp <;> omega)) _ | refine Below.setCell ?_ (by first | omega | (simp <;> omega)) _ | refine Below.trans ?_ (Below.mono (by assumption) (by first | omega | (simp <;> omega))))))
  go_enter Try.func49, Try.ntmps49
  go_wp2_with fail
  go_loopw [6, 7, 14] (fun s1 s2 i wr => ∃ (k : Nat) (u1 u2 : Value), u1 = s1 ∧ u2 = s2 ∧ k ≤ vs.length ∧ i = .int .i64 k ∧ Hid (Fam wr w.heap.size [nrow u1 (gSet (vs.take k) j true), nrow u2 (gSet (vs.take k) j false)]) ∧ Hid (Below w.heap.size w wr) ∧ w.heap.size ≤ wr.heap.size) (fun _ _ i _ => vs.length - (intOf i).toNat)
  case atStart => exact ⟨0, _, _, rfl, rfl, Nat.zero_le _, rfl, F0, B0, B0.out.size⟩
  case round =>
    clear F0 B0
    obtain ⟨k, u1, u2, rfl, rfl, hk, rfl, hF, hB, hsz⟩ := hrel
    by_cases hlt : k < vs.length
    · have i1 : (k : Int) < (vs.length : Int) := by omega
      have j2 : (0 : Int) ≤ (j : Int) := by omega
      obtain ⟨b0, off, rfl, hb0, ck⟩ := Hc.out k hlt
      replace ck := (hB.out.cell hb0).trans ck
      have HX := Lib.hid (gSet_take (j := j) (b := true) hlt)
      have HY := Lib.hid (gSet_take (j := j) (b := false) hlt)
      have hgl := gSet_len (vs.take k) j true
      have hgm := gSet_len (vs.take k) j false
      rw [List.length_take, Nat.min_eq_left (Nat.le_of_lt hlt)] at hgl hgm
      have hx31 : vs.getD k 0 ≤ 31 := by rw [getD_lt hlt]; exact HS.out _ (List.getElem_mem hlt)
      obtain ⟨x, hx⟩ : ∃ x, x = vs.getD k 0 := ⟨_, rfl⟩
      rw [← hx] at ck HX HY hx31
      clear hx
      have tb := bit_test x j (by omega)
      have FX := Lib.hid (hF.out.call (show Below wr.heap.size wr (wr.alloc (.cells #[.int .i64 (x : Int)] 3)) from (by repeat (first | exact Below.refl _ _ | assumption | refine Below.drew ?_ | refine below_drewN ?_ _ | refine Below.alloc ?_ (by first | omega | (simp <;> omega)) _ | refine Below.setCell ?_ (by first | omega | (simp <;> omega)) _ | refine Below.trans ?_ (Below.mono (by assumption) (by first | omega | (simp <;> omega)))))))
      have hbX := Lib.hid (Below.alloc hB.out hsz (.cells #[.int .i64 (x : Int)] 3))
      obtain ⟨L1, hL1⟩ : ∃ L, L = gSet (vs.take k) j true := ⟨_, rfl⟩
      obtain ⟨L2, hL2⟩ : ∃ L, L = gSet (vs.take k) j false := ⟨_, rfl⟩
      rw [← hL1] at FX HX hgl; rw [← hL2] at FX HY hgm
      clear hL1 hL2
      have hb1 : w.heap.size ≤ (wr.alloc (.cells #[.int .i64 (x : Int)] 3)).heap.size := by simp; omega
      cases hb : x.testBit j with
      | true =>
        rw [hb] at tb
        have H1 := Lib.hid (show gSet (vs.take (k + 1)) j true = L1 ++ [x] from by rw [HX.out, hb]; simp)
        have H2 := Lib.hid (show gSet (vs.take (k + 1)) j false = L2 from by rw [HY.out, hb]; simp)
        clear hb
        go_wp2_with (at_builtin; go_must (refine wpList_append_any _ rfl _ _ 22 rfl w.heap.size 3 j0 (.int .i64 0) 1 8 Try.underlying22 hjj hy0 hy1 hy2 rfl (by decide) _ L1.length _ rfl FX.out.head (wr.heap.size + 1) _ 1 1 [.int .i64 (x : Int)] rfl (one_reads wr x) (one_one _) (by unfold maxLen; omega) (by omega) hb1 ?_; intro v3 w4 hown3 hg3 hat3; have B4 := Lib.hid (grown_below hbX.out FX.out.head hg3 (Nat.le_refl _) hb1); have F4 := Lib.hid (show Fam w4 w.heap.size [nrow v3 (gSet (vs.take (k + 1)) j true), nrow u2 (gSet (vs.take (k + 1)) j false)] from (by rw [H1.out, H2.out]; exact FX.out.upd hg3 (nrow_app hown3) hat3)); have z4 := hg3.size; clear hown3 hg3 hat3))
        go_roundw
        case rel => exact ⟨k + 1, v3, u2, rfl, rfl, by omega, by go_num, F4, B4, by omega⟩
        case measure => simp [intOf]; omega
      | false =>
        rw [hb] at tb
        have H1 := Lib.hid (show gSet (vs.take (k + 1)) j true = L1 from by rw [HX.out, hb]; simp)
        have H2 := Lib.hid (show gSet (vs.take (k + 1)) j false = L2 ++ [x] from by rw [HY.out, hb]; simp)
        clear hb
        replace FX := Lib.hid FX.out.swap
        go_wp2_with (at_builtin; go_must (refine wpList_append_any _ rfl _ _ 22 rfl w.heap.size 3 j0 (.int .i64 0) 1 8 Try.underlying22 hjj hy0 hy1 hy2 rfl (by decide) _ L2.length _ rfl FX.out.head (wr.heap.size + 1) _ 1 1 [.int .i64 (x : Int)] rfl (one_reads wr x) (one_one _) (by unfold maxLen; omega) (by omega) hb1 ?_; intro v3 w4 hown3 hg3 hat3; have B4 := Lib.hid (grown_below hbX.out FX.out.head hg3 (Nat.le_refl _) hb1); have F4 := Lib.hid (show Fam w4 w.heap.size [nrow u1 (gSet (vs.take (k + 1)) j true), nrow v3 (gSet (vs.take (k + 1)) j false)] from (by rw [H1.out, H2.out]; exact (FX.out.upd hg3 (nrow_app hown3) hat3).swap)); have z4 := hg3.size; clear hown3 hg3 hat3))
        go_roundw
        case rel => exact ⟨k + 1, u1, v3, rfl, rfl, by omega, by go_num, F4, B4, by omega⟩
        case measure => simp [intOf]; omega
    · have i1 : ¬ (k : Int) < (vs.length : Int) := by omega
      rw [List.take_of_length_le (by omega)] at hF
      obtain ⟨a1, c1, rfl⟩ : ∃ a c, u1 = .slice a (gSet vs j true).length c := own_form hF.out.head
      obtain ⟨a2, c2, rfl⟩ : ∃ a c, u2 = .slice a (gSet vs j false).length c := own_form hF.out.swap.head
      go_wp2_with fail
      go_ret2
      exact ⟨_, _, rfl, hF.out, hB.out⟩
theorem inAll1_any (jb j : Nat) (vs : List Nat) (w : World) (hc : w.cell? ⟨jb, 0, none⟩ = some (.int .i64 (j : Int))) (hs : Sm vs) (hj : j < 5) :
    PredB 64 #[.pointer (some ⟨jb, 0, none⟩)] (Value.int .i64) (fun z => !z.toNat.testBit j) (ints vs) w := by
  intro W z hz hb
  obtain ⟨x, hx, rfl⟩ := List.mem_map.1 hz
  have hc' := below_cell hb rfl hc
  have hx31 := hs.2 x hx
  have tb := bit_test0g x j (by omega)
  have hmn : min j 64 = j := by omega
  have j2 : (0 : Int) ≤ (j : Int) := by omega
  clear hc hb hz hx
  show Calls Try.prog 64 #[.int .i64 (x : Int), .pointer (some ⟨jb, 0, none⟩)] W _
  go_enter Try.func64, Try.ntmps64
  go_wp2_with fail
  go_ret
  exact ⟨ret_bool (by simp), (by repeat (first | exact Below.refl _ _ | assumption | refine Below.drew ?_ | refine below_drewN ?_ _ | refine Below.alloc ?_ (by first | omega | (simp <;> omega)) _ | refine Below.setCell ?_ (by first | omega | (simp <;> omega)) _ | refine Below.trans ?_ (Below.mono (by assumption) (by first | omega | (simp <;> omega)))))⟩
theorem inAll_eq (vs : List Nat) (j : Nat) : (!((ints vs).any fun z => !z.toNat.testBit j)) = inAllB vs j := by
  unfold inAllB ints
  rw [List.any_map]
  simp [List.not_any_eq_all_not, Function.comp_def]
set_option maxHeartbeats 4000000 in
theorem impl_inAll_any (j : Nat) (v : Value) (vs : List Nat) (w : World) (h : RdI w v (ints vs)) (hs : Sm vs) (hj : j < 5) :
    Calls Try.prog 46 #[v, .int .i64 (j : Int)] w fun e w' => e = .returned (.bool (inAllB vs j)) ∧ Below w.heap.size w w' := by
  have hmf : ∀ (fn : Fn) (first cap : Array Value) (w : World), (Instr.makeFunc fn first cap).run Try.prog w = .ok (.func fn first cap) w := fun _ _ _ _ => rfl
  have Eg := Lib.hid (enters_of Try.func64 (by kernel_rfl) rfl)
  have H := Lib.hid h
  obtain ⟨A, c, rfl, _⟩ := h.form
  rw [ints_len] at *
  have c0 : (w.alloc (.cells #[.int .i64 (j : Int)] 3)).cell? ⟨w.heap.size, 0, none⟩ = some (.int .i64 (j : Int)) := (by repeat (first | (refine Eq.trans (World.cell?_alloc_at _ _ _ _ ?hh) ?_; (case hh => (simp; done)); rfl) | refine cell_alloc_keep _ ?_))
  have HP := Lib.hid (inAll1_any w.heap.size j vs _ c0 hs hj)
  clear h hs c0
  go_enter Try.func46, Try.ntmps46
  go_wp2_with fail
  refine (slices_ContainsFunc_ints _ _ _ Eg.out _ (ints vs) _ (Rd.below H.out (show Below w.heap.size w _ from (by repeat (first | exact Below.refl _ _ | assumption | refine Below.drew ?_ | refine below_drewN ?_ _ | refine Below.alloc ?_ (by first | omega | (simp <;> omega)) _ | refine Below.setCell ?_ (by first | omega | (simp <;> omega)) _ | refine Below.trans ?_ (Below.mono (by assumption) (by first | omega | (simp <;> omega)))))) rfl) HP.out).mono ?_; rintro e w1 ⟨rfl, hb1⟩
  have bw := Lib.hid (show Below w.heap.size w w1 from (by repeat (first | exact Below.refl _ _ | assumption | refine Below.drew ?_ | refine below_drewN ?_ _ | refine Below.alloc ?_ (by first | omega | (simp <;> omega)) _ | refine Below.setCell ?_ (by first | omega | (simp <;> omega)) _ | refine Below.trans ?_ (Below.mono (by assumption) (by first | omega | (simp <;> omega))))))
  clear hb1
  go_wp2_with fail
  go_ret
  exact ⟨ret_bool (inAll_eq vs j), bw.out⟩
end Go.Proofs.Ytgonldkgghikiaa
