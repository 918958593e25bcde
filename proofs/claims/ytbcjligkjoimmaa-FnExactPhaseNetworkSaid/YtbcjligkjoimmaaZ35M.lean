/- Linear maps composed, in the program and in the reference. -/
import Derived.Test.YtbcjligkjoimmaaZ23M
import Derived.Test.YtbcjligkjoimmaaZ17Set1
import Derived.Deep.AppendLies
import Derived.Deep.RegionLaw
namespace Go.Proofs.Ytbcjligkjoimmaa
set_option linter.unusedSimpArgs false
set_option linter.unusedVariables false
set_option linter.unnecessarySimpa false
set_option maxRecDepth 200000
open Go.ChangeShapes Go.WideShapes Go.ChangeAt Go.RowKit

def xorAt (F : List Nat) (ks : List Nat) (x : Nat) : Nat := ks.foldl (fun x k => x ^^^ F.getD k 0) x
/-- The mask before a map of a mask behind it, up to place k. -/
def thrTo (F : List Nat) (y k : Nat) : Nat := xorAt F (setB y k) 0
def thr (F : List Nat) (y : Nat) : Nat := thrTo F y F.length
theorem thrTo_succ (F : List Nat) (y k : Nat) : thrTo F y (k + 1) = if y.testBit k = true then thrTo F y k ^^^ F.getD k 0 else thrTo F y k := by
  unfold thrTo xorAt
  rw [setB_succ]
  split
  · rw [List.foldl_append]; rfl
  · rfl
theorem xorAt_31 {F : List Nat} (h : Small F) : ∀ (ks : List Nat) (x : Nat), x ≤ 31 → xorAt F ks x ≤ 31
  | [], x, hx => hx
  | k :: ks, x, hx => xorAt_31 h ks _ (xor_31 hx (h.get k))
theorem thrTo_31 {F : List Nat} (h : Small F) (y k : Nat) : thrTo F y k ≤ 31 := xorAt_31 h _ 0 (by omega)
theorem thr_bits {F : List Nat} {y : Nat} (hy : y < 2 ^ F.length) (hy2 : y ≤ 1023) : xorAt F (bitsOf y) 0 = thr F y := by
  unfold thr thrTo bitsOf
  rw [setB_eq (show y < 2 ^ 10 by omega) hy]
set_option maxHeartbeats 1000000 in
theorem impl_through_any (v : Value) (F : List Nat) (y : Nat) (w : World) (h : RdI w v (ints F)) (hs : Small F) (hy : y ≤ 1023) (h0 : 0 < F.length) (hn : F.length ≤ 60) :
    Calls Try.prog 69 #[.agg #[v], .int .i64 (y : Int)] w fun e w' => e = .returned (.int .i64 (thr F y)) ∧ Below w.heap.size w w' := by
  have hrd := Rd.below h (show Below w.heap.size w (w.alloc (.cells #[v] 35)) from (by repeat (first | exact Below.refl _ _ | assumption | refine Below.drew ?_ | refine below_drewN ?_ _ | refine Below.alloc ?_ (by first | omega | (simp <;> omega)) _ | refine Below.setCell ?_ (by first | omega | (simp <;> omega)) _ | refine Below.trans ?_ (Below.mono (by assumption) (by first | omega | (simp <;> omega)))))) rfl
  rcases RdI.cases hrd with ⟨_, he⟩ | ⟨b, off, cap, rfl, hb, hl, hm, hc⟩
  · have hF : F = [] := by simpa [ints] using he
    subst hF; simp at h0
  · rw [ints_len] at hl hc ⊢
    have HS := Lib.hid hs; clear hs h hrd
    have Hc := Lib.hid hc; clear hc
    go_enter Try.func69, Try.ntmps69
    go_wp2_with fail
    go_loop [5, 11] (fun x i => ∃ k : Nat, k ≤ F.length ∧ i = .int .i64 k ∧ x = .int .i64 (thrTo F y k)) (fun _ i => F.length - (intOf i).toNat)
    case atStart => exact ⟨0, Nat.zero_le _, rfl, rfl⟩
    case round =>
      obtain ⟨k, hk, rfl, rfl⟩ := hrel
      by_cases hlt : k < F.length
      · have hcell := Hc.out k hlt
        obtain ⟨z, hz⟩ : ∃ z, z = F.getD k 0 := ⟨_, rfl⟩
        rw [show (ints F).getD k 0 = (z : Int) from by rw [hz]; simp [ints, List.getD, hlt]] at hcell
        obtain ⟨x, hx⟩ : ∃ x, x = thrTo F y k := ⟨_, rfl⟩
        rw [← hx]
        have hx31 : x ≤ 31 := by rw [hx]; exact thrTo_31 HS.out y k
        have hz31 : z ≤ 31 := by rw [hz]; exact HS.out.get k
        have hbt := bit_test y k (by omega)
        have hxo := bits_xor x z (by omega) (by omega)
        have i1 : (k : Int) < (F.length : Int) := by omega
        cases hb : y.testBit k with
        | false =>
          rw [hb] at hbt
          have hr := Lib.hid (show thrTo F y (k + 1) = x from by rw [thrTo_succ, hb, hx]; rfl)
          clear hb hx hz
          go_wp2_with fail
          go_round
          case rel => exact ⟨k + 1, by omega, by go_num, by rw [hr.out]⟩
          case measure => simp [intOf]; omega
        | true =>
          rw [hb] at hbt
          have hr := Lib.hid (show thrTo F y (k + 1) = x ^^^ z from by rw [thrTo_succ, hb, hx, hz]; rfl)
          clear hb hx hz
          go_wp2_with fail
          go_round
          case rel => exact ⟨k + 1, by omega, by go_num, by rw [hr.out]⟩
          case measure => simp [intOf]; omega
      · have e : k = F.length := by omega
        subst e
        go_wp2_with fail
        go_ret
        exact ⟨rfl, (by repeat (first | exact Below.refl _ _ | assumption | refine Below.drew ?_ | refine below_drewN ?_ _ | refine Below.alloc ?_ (by first | omega | (simp <;> omega)) _ | refine Below.setCell ?_ (by first | omega | (simp <;> omega)) _ | refine Below.trans ?_ (Below.mono (by assumption) (by first | omega | (simp <;> omega)))))⟩
def thenN (F S : List Nat) : List Nat := S.map (thr F)
theorem thenN_len (F S : List Nat) : (thenN F S).length = S.length := by simp [thenN]
theorem Small.then {F : List Nat} (h : Small F) (S : List Nat) : Small (thenN F S) := by
  intro x hx
  obtain ⟨y, _, rfl⟩ := List.mem_map.1 hx
  exact thrTo_31 h y _
theorem thenN_succ {F S : List Nat} {k : Nat} (hk : k < S.length) : ints (thenN F (S.take (k + 1))) = ints (thenN F (S.take k)) ++ [(thr F (S.getD k 0) : Int)] := by
  rw [List.take_succ_eq_append_getElem hk]
  simp only [thenN, ints, List.map_append, List.map_cons, List.map_nil, getD_lt hk]
theorem rd_small {w : World} {v : Value} {L : List Nat} (h : RdI w v (ints L)) (h0 : 0 < L.length) : ∃ b off cap, v = .slice (some ⟨b, off, none⟩) L.length cap ∧ b < w.heap.size ∧ L.length ≤ cap ∧ cap ≤ 9223372036854775807 ∧ ∀ j, j < L.length → w.cell? ⟨b, off + j, none⟩ = some (.int .i64 (L.getD j 0 : Nat)) := by
  rcases RdI.cases h with ⟨_, he⟩ | ⟨b, off, cap, rfl, hb, hl, hm, hc⟩
  · have hF : L = [] := by simpa [ints] using he
    subst hF; simp at h0
  · rw [ints_len] at hl hc ⊢
    exact ⟨b, off, cap, rfl, hb, hl, hm, fun j hj => by rw [hc j hj]; simp [ints, List.getD, hj]⟩
set_option maxHeartbeats 2000000 in
theorem spec_l12Then_any (v u : Value) (F S : List Nat) (w : World) (h : RdI w v (ints F)) (hu : RdI w u (ints S)) (hs : Small F) (hS : ∀ y ∈ S, y < 2 ^ F.length) (h0 : 0 < F.length) (hn : F.length ≤ 5) (hs0 : 0 < S.length) (hsn : S.length ≤ 5) :
    Calls Try.prog 20 #[.agg #[v], .agg #[u]] w fun e w' => ∃ v', e = .returned (.agg #[v']) ∧ OwnI w' w.heap.size v' (ints (thenN F S)) ∧ Below w.heap.size w w' := by
  obtain ⟨i0, hi, hz0, hz1, hz2⟩ := info_parts info_int
  obtain ⟨b, off, cap, rfl, hb, hl, hm, hc⟩ := rd_small h h0
  obtain ⟨b2, off2, cap2, rfl, hb2, hl2, hm2, hc2⟩ := rd_small hu hs0
  have HS := Lib.hid hs; have HSS := Lib.hid hS; have Hc := Lib.hid hc; have Hc2 := Lib.hid hc2; clear hs h hu hS hc hc2
  go_enter Try.func20, Try.ntmps20
  go_wp2_with fail
  have bw : Below w.heap.size w ((((w.alloc (.cells #[.slice (some ⟨b, off, none⟩) F.length cap] 35)).alloc (.cells #[.slice (some ⟨b2, off2, none⟩) S.length cap2] 35)).alloc (.cells #[.slice none 0 0] 35)).alloc (.cells #[.slice none 0 0] 35)) := (by repeat (first | exact Below.refl _ _ | assumption | refine Below.drew ?_ | refine below_drewN ?_ _ | refine Below.alloc ?_ (by first | omega | (simp <;> omega)) _ | refine Below.setCell ?_ (by first | omega | (simp <;> omega)) _ | refine Below.trans ?_ (Below.mono (by assumption) (by first | omega | (simp <;> omega)))))
  generalize hW0 : (((w.alloc (.cells #[.slice (some ⟨b, off, none⟩) F.length cap] 35)).alloc (.cells #[.slice (some ⟨b2, off2, none⟩) S.length cap2] 35)).alloc (.cells #[.slice none 0 0] 35)).alloc (.cells #[.slice none 0 0] 35) = W0 at *
  have k0 : W0.cell? ⟨w.heap.size, 0, none⟩ = some (.slice (some ⟨b, off, none⟩) F.length cap) := by rw [← hW0]; exact (by repeat (first | (refine Eq.trans (World.cell?_alloc_at _ _ _ _ ?hh) ?_; (case hh => (simp; done)); rfl) | refine cell_alloc_keep _ ?_))
  have k2 : W0.cell? ⟨w.heap.size + 1 + 1, 0, none⟩ = some (.slice none 0 0) := by rw [← hW0]; exact (by repeat (first | (refine Eq.trans (World.cell?_alloc_at _ _ _ _ ?hh) ?_; (case hh => (simp; done)); rfl) | refine cell_alloc_keep _ ?_))
  have k3 : W0.cell? ⟨w.heap.size + 1 + 1 + 1, 0, none⟩ = some (.slice none 0 0) := by rw [← hW0]; exact (by repeat (first | (refine Eq.trans (World.cell?_alloc_at _ _ _ _ ?hh) ?_; (case hh => (simp; done)); rfl) | refine cell_alloc_keep _ ?_))
  have q2 : W0.frozen? ⟨w.heap.size + 1 + 1, 0, none⟩ = false := by rw [← hW0]; exact (by repeat (first | (refine World.frozen?_alloc_at _ _ _ _ ?hh; case hh => (simp; done)) | (refine frozen_alloc_lt _ ?hh ?_; case hh => first | omega | (simp <;> omega))))
  have q3 : W0.frozen? ⟨w.heap.size + 1 + 1 + 1, 0, none⟩ = false := by rw [← hW0]; exact (by repeat (first | (refine World.frozen?_alloc_at _ _ _ _ ?hh; case hh => (simp; done)) | (refine frozen_alloc_lt _ ?hh ?_; case hh => first | omega | (simp <;> omega))))
  have z0 : W0.heap.size = w.heap.size + 4 := by rw [← hW0]; simp
  have Z0 := Lib.hid z0
  have z1 : w.heap.size + 4 ≤ W0.heap.size := by omega
  clear hW0 z0
  go_loopw [14] (fun i wr => ∃ (k : Nat) (vv : Value), k ≤ S.length ∧ i = .int .i64 k ∧ wr.cell? ⟨w.heap.size + 1 + 1 + 1, 0, none⟩ = some vv ∧ wr.frozen? ⟨w.heap.size + 1 + 1 + 1, 0, none⟩ = false ∧ Hid (wr.ownsRow (w.heap.size + 4) 3 1 vv k ((ints (thenN F (S.take k))).map (Value.int .i64))) ∧ Below (w.heap.size + 3) W0 wr ∧ w.heap.size + 4 ≤ wr.heap.size) (fun i _ => S.length - (intOf i).toNat)
  case atStart => exact ⟨0, .slice none 0 0, Nat.zero_le _, rfl, k3, q3, World.ownsRow_nil _ _ _ _, Below.refl _ _, z1⟩
  case round =>
    obtain ⟨k, vv, hk, rfl, hcb, hfb, hown, hbel, hsz⟩ := hrel
    by_cases hlt : k < S.length
    · have b2w := (hbel.cell (p := ⟨b2, off2 + k, none⟩) (show b2 < w.heap.size + 3 by omega)).trans ((bw.cell (p := ⟨b2, off2 + k, none⟩) hb2).trans (Hc2.out k hlt))
      have bcF : ∀ j, j < F.length → wr.cell? ⟨b, off + j, none⟩ = some (.int .i64 (F.getD j 0 : Nat)) := fun j hj => (hbel.cell (p := ⟨b, off + j, none⟩) (show b < w.heap.size + 3 by omega)).trans ((bw.cell (p := ⟨b, off + j, none⟩) hb).trans (Hc.out j hj))
      have c0 := (hbel.cell (p := ⟨w.heap.size, 0, none⟩) (show w.heap.size < w.heap.size + 3 by omega)).trans k0
      have i1 : (k : Int) < (S.length : Int) := by omega
      obtain ⟨y, hy⟩ : ∃ y, y = S.getD k 0 := ⟨_, rfl⟩
      rw [← hy] at b2w
      have hyF : y < 2 ^ F.length := by rw [hy, getD_lt hlt]; exact HSS.out _ (List.getElem_mem hlt)
      have hy31 : y ≤ 31 := by have : (2 : Nat) ^ F.length ≤ 2 ^ 5 := Nat.pow_le_pow_right (by decide) hn; omega
      have hxy := Lib.hid (thr_bits hyF (by omega))
      have hsucc := Lib.hid (show ints (thenN F (S.take (k + 1))) = ints (thenN F (S.take k)) ++ [(thr F y : Int)] from by rw [hy]; exact thenN_succ hlt)
      have hmem := Lib.hid (show ∀ j ∈ bitsOf y, j < F.length from fun j hj => by
        unfold bitsOf at hj
        rw [setB_eq (show y < 2 ^ 10 by omega) hyF] at hj
        exact (setB_mem hj).1)
      have BcF := Lib.hid bcF; have HyF := Lib.hid hyF
      clear hy bcF hyF
      go_wp2_with fail
      refine (spec_l1Set_any y wr (by omega)).mono ?_; rintro e w2 ⟨v2, rfl, ho2, hb9⟩
      have own2 := Lib.hid (own_below hown.out hb9 rfl)
      have cb2 := below_cell hb9 rfl hcb
      have fb2 := below_frz hb9 rfl (by omega) hfb
      have c02 := below_cell hb9 rfl c0
      have hz9 := hb9.size
      have hbel2 : Below (w.heap.size + 3) W0 w2 := Below.trans hbel (Below.mono hb9 (by omega))
      have BcF2 := Lib.hid (show ∀ j, j < F.length → w2.cell? ⟨b, off + j, none⟩ = some (.int .i64 (F.getD j 0 : Nat)) from fun j hj => below_cell hb9 rfl (BcF.out j hj))
      have rd2 := ho2.rd
      clear hcb hfb hown hbel c0 hb9 b2w BcF ho2
      rcases Nat.eq_zero_or_pos (bitsOf y).length with he | he
      · have hnil : bitsOf y = [] := List.eq_nil_of_length_eq_zero he
        have hthr := Lib.hid (show thr F y = 0 from by rw [← hxy.out, hnil]; rfl)
        rw [hnil] at rd2
        obtain ⟨a9, c9, rfl, _⟩ := rd2.form
        clear he hnil rd2
        go_wp2_with fail
        refine wp_loop_rounds 1 ?_
        rw [rounds_succ]
        go_wp2_with (at_builtin; go_must (refine wpList_append_some _ rfl _ _ 23 rfl (w.heap.size + 4) 3 i0 (.int .i64 0) 1 8 Try.underlying23 hi hz0 hz1 hz2 rfl (by decide) vv k _ rfl (own2.out.alloc _) ⟨w2.heap.size, 0, none⟩ 1 1 [.int .i64 0] rfl rfl (news_cells _ [_] _) (fun x hx => by simp at hx; subst hx; rfl) (by unfold maxLen; omega) (by omega) (by simp; omega) (by omega) ?_; intro g cap9 w3 hown3 hg3 hgr3 hsz3; obtain ⟨hc3, hf3⟩ := grown_keep _ own2.out hgr3 cb2 fb2 (by omega)))
        go_roundw
        case rel =>
          have hb3 := grown_below (hbel2.alloc (by omega) _) (own2.out.alloc _) hgr3 (by omega) (by simp; omega)
          have hz3 : w.heap.size + 4 ≤ w3.heap.size := by simp at hsz3; omega
          refine ⟨k + 1, _, by omega, by go_num, World.cell?_setCell_same _ _ _ hc3, by rw [World.frozen?_setCell]; exact hf3, ?_, (by repeat (first | exact Below.refl _ _ | assumption | refine Below.drew ?_ | refine below_drewN ?_ _ | refine Below.alloc ?_ (by first | omega | (simp <;> omega)) _ | refine Below.setCell ?_ (by first | omega | (simp <;> omega)) _ | refine Below.trans ?_ (Below.mono (by assumption) (by first | omega | (simp <;> omega))))), by simpa using hz3⟩
          show World.ownsRow _ _ _ _ _ _ _
          rw [hsucc.out, List.map_append, show [((thr F y : Nat) : Int)].map (Value.int .i64) = [.int .i64 0] from by rw [hthr.out]; rfl]
          exact ownsRow_setCell_below hown3 (by simp) _
        case measure => simp [intOf]; omega
      · obtain ⟨b9, off9, cap9, rfl, hb9, hl9, hm9, hc9⟩ := rd_small rd2 he
        have Hc9 := Lib.hid hc9
        have hlen9 : (bitsOf y).length ≤ 10 := setB_len y 10
        clear rd2 hc9 he
        go_wp2_with fail
        go_loop [8, 21] (fun x i => ∃ j : Nat, j ≤ (bitsOf y).length ∧ i = .int .i64 j ∧ x = .int .i64 (xorAt F ((bitsOf y).take j) 0)) (fun _ i => (bitsOf y).length - (intOf i).toNat)
        case atStart => exact ⟨0, Nat.zero_le _, rfl, rfl⟩
        case round =>
          obtain ⟨j, hj, rfl, rfl⟩ := hrel
          by_cases hjl : j < (bitsOf y).length
          · have hcell := Hc9.out j hjl
            obtain ⟨t, ht⟩ : ∃ t, t = (bitsOf y).getD j 0 := ⟨_, rfl⟩
            rw [← ht] at hcell
            have htF : t < F.length := by rw [ht, getD_lt hjl]; exact hmem.out _ (List.getElem_mem hjl)
            have hcF := BcF2.out t htF
            obtain ⟨x, hx⟩ : ∃ x, x = xorAt F ((bitsOf y).take j) 0 := ⟨_, rfl⟩
            obtain ⟨z, hz⟩ : ∃ z, z = F.getD t 0 := ⟨_, rfl⟩
            rw [← hx]; rw [← hz] at hcF
            have hx31 : x ≤ 31 := by rw [hx]; exact xorAt_31 HS.out _ 0 (by omega)
            have hz31 : z ≤ 31 := by rw [hz]; exact HS.out.get t
            have hxo := bits_xor x z (by omega) (by omega)
            have hr := Lib.hid (show xorAt F ((bitsOf y).take (j + 1)) 0 = x ^^^ z from by
              rw [List.take_succ_eq_append_getElem hjl, hx, hz, ht, getD_lt hjl]; simp only [xorAt, List.foldl_append, List.foldl_cons, List.foldl_nil])
            have i2 : (j : Int) < ((bitsOf y).length : Int) := by omega
            have i3 : (t : Int) < (F.length : Int) := by omega
            clear ht hx hz
            go_wp2_with fail
            go_round
            case rel => exact ⟨j + 1, by omega, by go_num, by rw [hr.out]⟩
            case measure => simp [intOf]; omega
          · have hfin : xorAt F ((bitsOf y).take j) 0 = thr F y := by rw [List.take_of_length_le (by omega)]; exact hxy.out
            rw [hfin]
            clear hfin Hc9 BcF2
            go_wp2_with (at_builtin; go_must (refine wpList_append_some _ rfl _ _ 23 rfl (w.heap.size + 4) 3 i0 (.int .i64 0) 1 8 Try.underlying23 hi hz0 hz1 hz2 rfl (by decide) vv k _ rfl (own2.out.alloc _) ⟨w2.heap.size, 0, none⟩ 1 1 [.int .i64 ((thr F y : Nat) : Int)] rfl rfl (news_cells _ [_] _) (fun x hx => by simp at hx; subst hx; rfl) (by unfold maxLen; omega) (by omega) (by simp; omega) (by omega) ?_; intro g cap9 w3 hown3 hg3 hgr3 hsz3; obtain ⟨hc3, hf3⟩ := grown_keep _ own2.out hgr3 cb2 fb2 (by omega)))
            go_roundw
            case rel =>
              have hb3 := grown_below (hbel2.alloc (by omega) _) (own2.out.alloc _) hgr3 (by omega) (by simp; omega)
              have hz3 : w.heap.size + 4 ≤ w3.heap.size := by simp at hsz3; omega
              refine ⟨k + 1, _, by omega, by go_num, World.cell?_setCell_same _ _ _ hc3, by rw [World.frozen?_setCell]; exact hf3, ?_, (by repeat (first | exact Below.refl _ _ | assumption | refine Below.drew ?_ | refine below_drewN ?_ _ | refine Below.alloc ?_ (by first | omega | (simp <;> omega)) _ | refine Below.setCell ?_ (by first | omega | (simp <;> omega)) _ | refine Below.trans ?_ (Below.mono (by assumption) (by first | omega | (simp <;> omega))))), by simpa using hz3⟩
              show World.ownsRow _ _ _ _ _ _ _
              rw [hsucc.out, List.map_append]
              exact ownsRow_setCell_below hown3 (by simp) _
            case measure => simp [intOf]; omega
    · have e : k = S.length := by omega
      subst e
      have r0 := (hbel.cell (p := ⟨w.heap.size + 1 + 1, 0, none⟩) (show w.heap.size + 1 + 1 < w.heap.size + 3 by omega)).trans k2
      have f0 := (hbel.frozen (p := ⟨w.heap.size + 1 + 1, 0, none⟩) (show w.heap.size + 1 + 1 < w.heap.size + 3 by omega)).trans q2
      rw [List.take_of_length_le (Nat.le_refl _)] at hown
      rcases Go.Joins.ownsRow_forms hown.out with ⟨rfl, hk0⟩ | ⟨g, cap9, rfl⟩
      · omega
      · go_wp2_with fail
        refine bodyPost_ret (v := .agg #[_]) (by simp [results, Try.results20, go_sem, r0]; rfl) rfl ⟨_, rfl, ?_, ?_⟩
        · unfold OwnI
          rw [ints_len, thenN_len]
          exact own_le (ownsRow_setCell_below hown.out (by simp) _) (by omega)
        · have h3 := Below.trans (Below.mono (show Below w.heap.size w W0 from bw) (Nat.le_refl _)) (Below.mono hbel (show w.heap.size ≤ w.heap.size + 3 by omega))
          exact (by repeat (first | exact Below.refl _ _ | assumption | refine Below.drew ?_ | refine below_drewN ?_ _ | refine Below.alloc ?_ (by first | omega | (simp <;> omega)) _ | refine Below.setCell ?_ (by first | omega | (simp <;> omega)) _ | refine Below.trans ?_ (Below.mono (by assumption) (by first | omega | (simp <;> omega)))))
end Go.Proofs.Ytbcjligkjoimmaa
namespace Go.Proofs.Ytbcjligkjoimmaa
set_option linter.unusedSimpArgs false
set_option linter.unusedVariables false
set_option linter.unnecessarySimpa false
set_option maxRecDepth 200000
open Go.ChangeShapes Go.WideShapes Go.ChangeAt Go.RowKit

def natL (zs : List Int) : List Nat := zs.map Int.toNat
theorem natL_len (zs : List Int) : (natL zs).length = zs.length := by simp [natL]
noncomputable def compG (f s : List Int) : Option (List Int) := if LinOk f ∧ LinOk s ∧ f.length = s.length then some (ints (thenN (natL f) (natL s))) else none
theorem compG_none {f s : List Int} (h : ¬ (LinOk f ∧ LinOk s ∧ f.length = s.length)) : compG f s = none := if_neg h
theorem compG_some {f s : List Int} (h : LinOk f ∧ LinOk s ∧ f.length = s.length) : compG f s = some (ints (thenN (natL f) (natL s))) := if_pos h
theorem compG_len (f s : List Int) : ((compG f s).getD []).length ≤ 1000000 := by
  unfold compG
  split
  · next h => simp [ints_len, thenN_len, natL_len]; have := h.2.1.1; omega
  · simp
theorem rows_lt {f s : List Int} (h : LinOk f ∧ LinOk s ∧ f.length = s.length) : ∀ y ∈ natL s, y < 2 ^ (natL f).length := by
  intro y hy
  obtain ⟨z, hz, rfl⟩ := List.mem_map.1 hy
  have h1 := allIn_iff.1 h.2.1.2.1 z hz
  rw [natL_len, h.2.2]
  have h5 := h.2.1.1.2
  have : s.length = 0 ∨ s.length = 1 ∨ s.length = 2 ∨ s.length = 3 ∨ s.length = 4 ∨ s.length = 5 := by omega
  rcases this with e | e | e | e | e | e <;> rw [e] at h1 ⊢ <;> simp at h1 ⊢ <;> omega
set_option maxHeartbeats 4000000 in
theorem impl_ComposeLinear_any (v u : Value) (f s : List Int) (w : World) (h : RdI w v f) (hu : RdI w u s) (hn : f.length ≤ 1048576) (hm : s.length ≤ 1048576) :
    Calls Try.prog 28 #[.agg #[v], .agg #[u]] w (LinPost w (compG f s)) := by
  have H := Lib.hid h; have HU := Lib.hid hu
  obtain ⟨A, c, rfl, _⟩ := h.form
  obtain ⟨A2, c2, rfl, _⟩ := hu.form
  clear h hu
  by_cases hv : LinOk f
  · by_cases hq : LinOk s
    · by_cases hl : f.length = s.length
      · have HG := Lib.hid (compG_some ⟨hv, hq, hl⟩)
        have Hv := Lib.hid (linB_true hv); have Hq := Lib.hid (linB_true hq)
        have g1 : ((f.length : Int) != (s.length : Int)) = false := by simp; omega
        have Hr := Lib.hid (rows_lt ⟨hv, hq, hl⟩)
        have Hz := Lib.hid hv.nat.1; have Hs := Lib.hid hv.nat.2; have Hz2 := Lib.hid hq.nat.1; have Hs2 := Lib.hid hq.nat.2
        have l1 := hv.1; have l2 := hq.1
        obtain ⟨l1a, l1b⟩ := l1; obtain ⟨l2a, l2b⟩ := l2
        clear hv hq hl
        go_enter Try.func28, Try.ntmps28
        go_wp2_with fail
        refine (impl_IsValidLinear_any _ f _ (Rd.below H.out (show Below w.heap.size w _ from (by repeat (first | exact Below.refl _ _ | assumption | refine Below.drew ?_ | refine below_drewN ?_ _ | refine Below.alloc ?_ (by first | omega | (simp <;> omega)) _ | refine Below.setCell ?_ (by first | omega | (simp <;> omega)) _ | refine Below.trans ?_ (Below.mono (by assumption) (by first | omega | (simp <;> omega)))))) rfl) hn).mono ?_; rintro e w1 ⟨rfl, hb1⟩
        rw [Hv.out]
        have r1 : w1.cell? ⟨w.heap.size + 1 + 1, 0, none⟩ = some (.slice none 0 0) := below_cell hb1 rfl (by repeat (first | (refine Eq.trans (World.cell?_alloc_at _ _ _ _ ?hh) ?_; (case hh => (simp; done)); rfl) | refine cell_alloc_keep _ ?_))
        obtain ⟨hc_hb1, hf_hb1⟩ := bcell hb1; have hz_hb1 := hb1.size; (try simp at hz_hb1); have hs0_hb1 : w.heap.size < w1.heap.size := (by omega); have hs1_hb1 : w.heap.size + 1 < w1.heap.size := (by omega); have hs2_hb1 : w.heap.size + 1 + 1 < w1.heap.size := (by omega)
        go_wp2_with fail
        refine (impl_IsValidLinear_any _ s _ (Rd.below HU.out (show Below w.heap.size w _ from (by repeat (first | exact Below.refl _ _ | assumption | refine Below.drew ?_ | refine below_drewN ?_ _ | refine Below.alloc ?_ (by first | omega | (simp <;> omega)) _ | refine Below.setCell ?_ (by first | omega | (simp <;> omega)) _ | refine Below.trans ?_ (Below.mono (by assumption) (by first | omega | (simp <;> omega)))))) rfl) hm).mono ?_; rintro e w2 ⟨rfl, hb2⟩
        rw [Hq.out]
        replace r1 := below_cell hb2 rfl r1
        obtain ⟨hc_hb2, hf_hb2⟩ := bcell hb2; have hz_hb2 := hb2.size; (try simp at hz_hb2); have hs0_hb2 : w.heap.size < w2.heap.size := (by omega); have hs1_hb2 : w.heap.size + 1 < w2.heap.size := (by omega); have hs2_hb2 : w.heap.size + 1 + 1 < w2.heap.size := (by omega)
        go_wp2_with fail
        obtain ⟨b2, off2, cap2, e2, hb2', hlc2, hm2, hc2⟩ := rd_small (show RdI w (.slice A2 s.length c2) (ints (natL s)) from by unfold natL; rw [← Hz2.out]; exact HU.out) (by rw [natL_len]; omega)
        injection e2 with e2 en e3; subst e2; subst e3
        clear en
        rw [natL_len] at hc2 hlc2
        have Hc2 := Lib.hid hc2; clear hc2
        have HF := Lib.hid (show RdI w (.slice A f.length c) (ints (natL f)) from by unfold natL; rw [← Hz.out]; exact H.out)
        have Hlt := Lib.hid (show ∀ k, k < s.length → (natL s).getD k 0 ≤ 31 from fun k hk => Hs2.out.get k)
        have c0 : w2.cell? ⟨w.heap.size, 0, none⟩ = some (.slice A f.length c) := below_cell hb2 rfl (below_cell hb1 rfl (by repeat (first | (refine Eq.trans (World.cell?_alloc_at _ _ _ _ ?hh) ?_; (case hh => (simp; done)); rfl) | refine cell_alloc_keep _ ?_)))
        have r2 : w2.frozen? ⟨w.heap.size + 1 + 1, 0, none⟩ = false := below_frz hb2 rfl (by omega) (below_frz hb1 rfl (by simp) (by repeat (first | (refine World.frozen?_alloc_at _ _ _ _ ?hh; case hh => (simp; done)) | (refine frozen_alloc_lt _ ?hh ?_; case hh => first | omega | (simp <;> omega)))))
        have bw : Below w.heap.size w (w2.alloc (.cells #[.slice none 0 0] 35)) := (by repeat (first | exact Below.refl _ _ | assumption | refine Below.drew ?_ | refine below_drewN ?_ _ | refine Below.alloc ?_ (by first | omega | (simp <;> omega)) _ | refine Below.setCell ?_ (by first | omega | (simp <;> omega)) _ | refine Below.trans ?_ (Below.mono (by assumption) (by first | omega | (simp <;> omega)))))
        have hLf : 0 < (natL f).length := by rw [natL_len]; omega
        have hLf2 : (natL f).length ≤ 60 := by rw [natL_len]; omega
        obtain ⟨i0, hi, hz0, hz1, hz2⟩ := info_parts info_int
        have z1 : w.heap.size + 3 ≤ w2.heap.size := by omega
        clear hb1 hb2 hc_hb1 hf_hb1 hc_hb2 hf_hb2 HU H
        go_loopw [31] (fun i wr => ∃ (k : Nat) (vv : Value), k ≤ s.length ∧ i = .int .i64 k ∧ wr.cell? ⟨w2.heap.size, 0, none⟩ = some vv ∧ wr.frozen? ⟨w2.heap.size, 0, none⟩ = false ∧ Hid (wr.ownsRow (w2.heap.size + 1) 3 1 vv k ((ints (thenN (natL f) ((natL s).take k))).map (Value.int .i64))) ∧ Below w2.heap.size (w2.alloc (.cells #[.slice none 0 0] 35)) wr ∧ w2.heap.size + 1 ≤ wr.heap.size) (fun i _ => s.length - (intOf i).toNat)
        case atStart => exact ⟨0, .slice none 0 0, Nat.zero_le _, rfl, (by repeat (first | (refine Eq.trans (World.cell?_alloc_at _ _ _ _ ?hh) ?_; (case hh => (simp; done)); rfl) | refine cell_alloc_keep _ ?_)), (by repeat (first | (refine World.frozen?_alloc_at _ _ _ _ ?hh; case hh => (simp; done)) | (refine frozen_alloc_lt _ ?hh ?_; case hh => first | omega | (simp <;> omega)))), World.ownsRow_nil _ _ _ _, Below.refl _ _, by simp⟩
        case round =>
          obtain ⟨k, vv, hk, rfl, hcb, hfb, hown, hbel, hsz⟩ := hrel
          have c0r : wr.cell? ⟨w.heap.size, 0, none⟩ = some (.slice A f.length c) := (hbel.cell (p := ⟨w.heap.size, 0, none⟩) (show w.heap.size < w2.heap.size by omega)).trans (cell_alloc_keep _ c0)
          have r1r : wr.cell? ⟨w.heap.size + 1 + 1, 0, none⟩ = some (.slice none 0 0) := (hbel.cell (p := ⟨w.heap.size + 1 + 1, 0, none⟩) (show w.heap.size + 1 + 1 < w2.heap.size by omega)).trans (cell_alloc_keep _ r1)
          have r2r : wr.frozen? ⟨w.heap.size + 1 + 1, 0, none⟩ = false := (hbel.frozen (p := ⟨w.heap.size + 1 + 1, 0, none⟩) (show w.heap.size + 1 + 1 < w2.heap.size by omega)).trans (frozen_alloc_keep _ r1 r2)
          have belw : Below w.heap.size w wr := Below.trans bw (Below.mono hbel (by omega))
          by_cases hlt : k < s.length
          · have g2 := (belw.cell (p := ⟨b2, off2 + k, none⟩) hb2').trans (Hc2.out k hlt)
            have i1 : (k : Int) < (s.length : Int) := by omega
            obtain ⟨y, hy⟩ : ∃ y, y = (natL s).getD k 0 := ⟨_, rfl⟩
            have hy31 : y ≤ 31 := by rw [hy]; exact Hlt.out k hlt
            rw [← hy] at g2
            have hsucc := Lib.hid (show ints (thenN (natL f) ((natL s).take (k + 1))) = ints (thenN (natL f) ((natL s).take k)) ++ [(thr (natL f) y : Int)] from by rw [hy]; exact thenN_succ (by rw [natL_len]; exact hlt))
            have HFr := Lib.hid (Rd.below HF.out (show Below w.heap.size w wr.drew from (by repeat (first | exact Below.refl _ _ | assumption | refine Below.drew ?_ | refine below_drewN ?_ _ | refine Below.alloc ?_ (by first | omega | (simp <;> omega)) _ | refine Below.setCell ?_ (by first | omega | (simp <;> omega)) _ | refine Below.trans ?_ (Below.mono (by assumption) (by first | omega | (simp <;> omega)))))) rfl)
            clear hy belw
            go_wp2_with fail
            go_region_law ((first
              | (refine step_append_lies _ (by rfl) _ _ 23 (by rfl) (w2.heap.size + 1) 3 i0 (.int .i64 0) 1 8 Try.underlying23 hi hz0 hz1 hz2 rfl (by omega) vv k _ (by rfl) (own3.out.alloc _) ⟨w3.heap.size, 0, none⟩ 1 1 [.int .i64 ((thr (natL f) y : Nat) : Int)] (by rfl) (by rfl) (news_cells w3 [_] 3) (fun x hx => by simp at hx; subst hx; rfl) (by omega) (by unfold maxLen; omega) (by omega) (by simp; omega) (w3.heap.size + 1) (by simp) ?_; intro g cap9 w4 hown4 hgr4 hat hsz4; obtain ⟨hc4, hf4⟩ := grown_same (own3.out.alloc _) hgr4 (cell_alloc_keep _ cb3) (frozen_alloc_keep _ cb3 fb3) (by omega))
              | (go_simp; go_at_call 69; refine (impl_through_any _ (natL f) y _ HFr.out Hs.out (by omega) hLf hLf2).mono ?_; rintro e w3 ⟨rfl, hb9⟩; have own3 := Lib.hid (own_below (own_below hown.out (show Below wr.heap.size wr wr.drew from (by repeat (first | exact Below.refl _ _ | assumption | refine Below.drew ?_ | refine below_drewN ?_ _ | refine Below.alloc ?_ (by first | omega | (simp <;> omega)) _ | refine Below.setCell ?_ (by first | omega | (simp <;> omega)) _ | refine Below.trans ?_ (Below.mono (by assumption) (by first | omega | (simp <;> omega)))))) rfl) hb9 rfl); have cb3 := below_cell hb9 rfl hcb; have fb3 := below_frz hb9 rfl (by simp; omega) hfb; have hca : ∀ X, (w3.alloc X).cell? ⟨w2.heap.size, 0, none⟩ = some vv := fun X => cell_alloc_keep X cb3; have hz9 := hb9.size; (try simp at hz9); dsimp only)))
            all_goals
              go_wp2_with fail
              go_roundw
              case rel =>
                have hb4 := grown_below (show Below w2.heap.size (w2.alloc (.cells #[.slice none 0 0] 35)) (w3.alloc (.cells #[.int .i64 ((thr (natL f) y : Nat) : Int)] 3)) from (by repeat (first | exact Below.refl _ _ | assumption | refine Below.drew ?_ | refine below_drewN ?_ _ | refine Below.alloc ?_ (by first | omega | (simp <;> omega)) _ | refine Below.setCell ?_ (by first | omega | (simp <;> omega)) _ | refine Below.trans ?_ (Below.mono (by assumption) (by first | omega | (simp <;> omega)))))) (own3.out.alloc _) hgr4 (by omega) (by simp; omega)
                have hz4 : w2.heap.size + 1 ≤ w4.heap.size := by have := hgr4.size; simp at this; omega
                refine ⟨k + 1, _, by omega, by go_num, World.cell?_setCell_same _ _ _ hc4, by rw [World.frozen?_setCell]; exact hf4, ?_, (by repeat (first | exact Below.refl _ _ | assumption | refine Below.drew ?_ | refine below_drewN ?_ _ | refine Below.alloc ?_ (by first | omega | (simp <;> omega)) _ | refine Below.setCell ?_ (by first | omega | (simp <;> omega)) _ | refine Below.trans ?_ (Below.mono (by assumption) (by first | omega | (simp <;> omega))))), by simpa using hz4⟩
                show World.ownsRow _ _ _ _ _ _ _
                rw [hsucc.out, List.map_append]
                exact ownsRow_setCell_below hown4 (by simp) _
              case measure => simp [intOf]; omega
          · have e : k = s.length := by omega
            subst e
            have htk : (natL s).take s.length = natL s := List.take_of_length_le (by rw [natL_len]; exact Nat.le_refl _)
            rw [htk] at hown
            rcases Go.Joins.ownsRow_forms hown.out with ⟨rfl, hk0⟩ | ⟨g, cap9, rfl⟩
            · omega
            · have bel9 : Below w.heap.size w wr := belw
              go_wp2_with fail
              refine bodyPost_ret (v := .tuple #[.agg #[.slice (some ⟨g, 0, none⟩) s.length cap9], .bool true]) (by simp [results, Try.results28, go_sem, r1r]) rfl (LinPost.some HG.out ?_ (by repeat (first | exact Below.refl _ _ | assumption | refine Below.drew ?_ | refine below_drewN ?_ _ | refine Below.alloc ?_ (by first | omega | (simp <;> omega)) _ | refine Below.setCell ?_ (by first | omega | (simp <;> omega)) _ | refine Below.trans ?_ (Below.mono (by assumption) (by first | omega | (simp <;> omega))))))
              unfold OwnI
              rw [ints_len, thenN_len, natL_len]
              exact own_le (ownsRow_setCell_below hown.out (by simp; omega) _) (by omega)
      · have HG := Lib.hid (compG_none (fun k => hl k.2.2) : compG f s = none)
        have Hv := Lib.hid (linB_true hv); have Hq := Lib.hid (linB_true hq)
        have g1 : ((f.length : Int) != (s.length : Int)) = true := by simp; omega
        clear hv hq hl
        go_enter Try.func28, Try.ntmps28
        go_wp2_with fail
        refine (impl_IsValidLinear_any _ f _ (Rd.below H.out (show Below w.heap.size w _ from (by repeat (first | exact Below.refl _ _ | assumption | refine Below.drew ?_ | refine below_drewN ?_ _ | refine Below.alloc ?_ (by first | omega | (simp <;> omega)) _ | refine Below.setCell ?_ (by first | omega | (simp <;> omega)) _ | refine Below.trans ?_ (Below.mono (by assumption) (by first | omega | (simp <;> omega)))))) rfl) hn).mono ?_; rintro e w1 ⟨rfl, hb1⟩
        rw [Hv.out]
        have r1 : w1.cell? ⟨w.heap.size + 1 + 1, 0, none⟩ = some (.slice none 0 0) := below_cell hb1 rfl (by repeat (first | (refine Eq.trans (World.cell?_alloc_at _ _ _ _ ?hh) ?_; (case hh => (simp; done)); rfl) | refine cell_alloc_keep _ ?_))
        obtain ⟨hc_hb1, hf_hb1⟩ := bcell hb1; have hz_hb1 := hb1.size; (try simp at hz_hb1); have hs0_hb1 : w.heap.size < w1.heap.size := (by omega); have hs1_hb1 : w.heap.size + 1 < w1.heap.size := (by omega); have hs2_hb1 : w.heap.size + 1 + 1 < w1.heap.size := (by omega)
        go_wp2_with fail
        refine (impl_IsValidLinear_any _ s _ (Rd.below HU.out (show Below w.heap.size w _ from (by repeat (first | exact Below.refl _ _ | assumption | refine Below.drew ?_ | refine below_drewN ?_ _ | refine Below.alloc ?_ (by first | omega | (simp <;> omega)) _ | refine Below.setCell ?_ (by first | omega | (simp <;> omega)) _ | refine Below.trans ?_ (Below.mono (by assumption) (by first | omega | (simp <;> omega)))))) rfl) hm).mono ?_; rintro e w2 ⟨rfl, hb2⟩
        rw [Hq.out]
        replace r1 := below_cell hb2 rfl r1
        obtain ⟨hc_hb2, hf_hb2⟩ := bcell hb2; have hz_hb2 := hb2.size; (try simp at hz_hb2); have hs0_hb2 : w.heap.size < w2.heap.size := (by omega); have hs1_hb2 : w.heap.size + 1 < w2.heap.size := (by omega); have hs2_hb2 : w.heap.size + 1 + 1 < w2.heap.size := (by omega)
        go_wp2_with fail
        exact bodyPost_ret (v := .tuple #[.agg #[.slice none 0 0], .bool false]) (by simp [results, Try.results28, go_sem, r1]) rfl (LinPost.none HG.out (by repeat (first | exact Below.refl _ _ | assumption | refine Below.drew ?_ | refine below_drewN ?_ _ | refine Below.alloc ?_ (by first | omega | (simp <;> omega)) _ | refine Below.setCell ?_ (by first | omega | (simp <;> omega)) _ | refine Below.trans ?_ (Below.mono (by assumption) (by first | omega | (simp <;> omega))))))
    · have HG := Lib.hid (compG_none (fun k => hq k.2.1) : compG f s = none)
      have Hv := Lib.hid (linB_true hv); have Hq := Lib.hid (linB_false hq)
      clear hv hq
      go_enter Try.func28, Try.ntmps28
      go_wp2_with fail
      refine (impl_IsValidLinear_any _ f _ (Rd.below H.out (show Below w.heap.size w _ from (by repeat (first | exact Below.refl _ _ | assumption | refine Below.drew ?_ | refine below_drewN ?_ _ | refine Below.alloc ?_ (by first | omega | (simp <;> omega)) _ | refine Below.setCell ?_ (by first | omega | (simp <;> omega)) _ | refine Below.trans ?_ (Below.mono (by assumption) (by first | omega | (simp <;> omega)))))) rfl) hn).mono ?_; rintro e w1 ⟨rfl, hb1⟩
      rw [Hv.out]
      have r1 : w1.cell? ⟨w.heap.size + 1 + 1, 0, none⟩ = some (.slice none 0 0) := below_cell hb1 rfl (by repeat (first | (refine Eq.trans (World.cell?_alloc_at _ _ _ _ ?hh) ?_; (case hh => (simp; done)); rfl) | refine cell_alloc_keep _ ?_))
      obtain ⟨hc_hb1, hf_hb1⟩ := bcell hb1; have hz_hb1 := hb1.size; (try simp at hz_hb1); have hs0_hb1 : w.heap.size < w1.heap.size := (by omega); have hs1_hb1 : w.heap.size + 1 < w1.heap.size := (by omega); have hs2_hb1 : w.heap.size + 1 + 1 < w1.heap.size := (by omega)
      go_wp2_with fail
      refine (impl_IsValidLinear_any _ s _ (Rd.below HU.out (show Below w.heap.size w _ from (by repeat (first | exact Below.refl _ _ | assumption | refine Below.drew ?_ | refine below_drewN ?_ _ | refine Below.alloc ?_ (by first | omega | (simp <;> omega)) _ | refine Below.setCell ?_ (by first | omega | (simp <;> omega)) _ | refine Below.trans ?_ (Below.mono (by assumption) (by first | omega | (simp <;> omega)))))) rfl) hm).mono ?_; rintro e w2 ⟨rfl, hb2⟩
      rw [Hq.out]
      replace r1 := below_cell hb2 rfl r1
      obtain ⟨hc_hb2, hf_hb2⟩ := bcell hb2; have hz_hb2 := hb2.size; (try simp at hz_hb2); have hs0_hb2 : w.heap.size < w2.heap.size := (by omega); have hs1_hb2 : w.heap.size + 1 < w2.heap.size := (by omega); have hs2_hb2 : w.heap.size + 1 + 1 < w2.heap.size := (by omega)
      go_wp2_with fail
      exact bodyPost_ret (v := .tuple #[.agg #[.slice none 0 0], .bool false]) (by simp [results, Try.results28, go_sem, r1]) rfl (LinPost.none HG.out (by repeat (first | exact Below.refl _ _ | assumption | refine Below.drew ?_ | refine below_drewN ?_ _ | refine Below.alloc ?_ (by first | omega | (simp <;> omega)) _ | refine Below.setCell ?_ (by first | omega | (simp <;> omega)) _ | refine Below.trans ?_ (Below.mono (by assumption) (by first | omega | (simp <;> omega))))))
  · have HG := Lib.hid (compG_none (fun k => hv k.1) : compG f s = none)
    have Hv := Lib.hid (linB_false hv); clear hv
    go_enter Try.func28, Try.ntmps28
    go_wp2_with fail
    refine (impl_IsValidLinear_any _ f _ (Rd.below H.out (show Below w.heap.size w _ from (by repeat (first | exact Below.refl _ _ | assumption | refine Below.drew ?_ | refine below_drewN ?_ _ | refine Below.alloc ?_ (by first | omega | (simp <;> omega)) _ | refine Below.setCell ?_ (by first | omega | (simp <;> omega)) _ | refine Below.trans ?_ (Below.mono (by assumption) (by first | omega | (simp <;> omega)))))) rfl) hn).mono ?_; rintro e w1 ⟨rfl, hb1⟩
    rw [Hv.out]
    have r1 : w1.cell? ⟨w.heap.size + 1 + 1, 0, none⟩ = some (.slice none 0 0) := below_cell hb1 rfl (by repeat (first | (refine Eq.trans (World.cell?_alloc_at _ _ _ _ ?hh) ?_; (case hh => (simp; done)); rfl) | refine cell_alloc_keep _ ?_))
    obtain ⟨hc_hb1, hf_hb1⟩ := bcell hb1; have hz_hb1 := hb1.size; (try simp at hz_hb1); have hs0_hb1 : w.heap.size < w1.heap.size := (by omega); have hs1_hb1 : w.heap.size + 1 < w1.heap.size := (by omega); have hs2_hb1 : w.heap.size + 1 + 1 < w1.heap.size := (by omega)
    go_wp2_with fail
    exact bodyPost_ret (v := .tuple #[.agg #[.slice none 0 0], .bool false]) (by simp [results, Try.results28, go_sem, r1]) rfl (LinPost.none HG.out (by repeat (first | exact Below.refl _ _ | assumption | refine Below.drew ?_ | refine below_drewN ?_ _ | refine Below.alloc ?_ (by first | omega | (simp <;> omega)) _ | refine Below.setCell ?_ (by first | omega | (simp <;> omega)) _ | refine Below.trans ?_ (Below.mono (by assumption) (by first | omega | (simp <;> omega))))))
end Go.Proofs.Ytbcjligkjoimmaa
