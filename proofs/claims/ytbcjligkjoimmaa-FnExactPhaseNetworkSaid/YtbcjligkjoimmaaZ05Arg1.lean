/- Slices of whole numbers that come in as a law's arguments: opened, measured, copied. -/
import Derived.Test.YtbcjligkjoimmaaZ04Lin1
import Derived.Test.YtbcjligkjoimmaaZ01M
import Derived.ChangeSlices
namespace Go.Proofs.Ytbcjligkjoimmaa
set_option linter.unusedSimpArgs false
set_option linter.unusedVariables false
set_option linter.unnecessarySimpa false
set_option maxRecDepth 200000
open Go.ChangeShapes Go.WideShapes Go.ChangeAt Go.RowKit Go.Joins

def InI64 (zs : List Int) : Prop := ∀ z ∈ zs, -9223372036854775808 ≤ z ∧ z ≤ 9223372036854775807
def IsIntS (w : World) (v : Value) : Prop := ∃ zs : List Int, RdI w v zs ∧ InI64 zs
theorem addr_none {w : World} {a : Addr} {u : Value} (h : w.cell? a = some u) : a.spot = none := by
  unfold World.cell? at h
  split at h
  · split at h
    · cases h
    · rename_i hs; simpa using hs
  · cases h
section
variable {H : Type} {enc : TypeId × Value → H} {W : World} {base : Nat} {spare : Nat → Bool} {held : Bool} {r : Reach} {b0 : Nat}
theorem cellIntS_of {n : Nat} {t e : TypeId} {v : Value} {y : DataW H × List MemPlace} (ht : Try.prog.underlying t = some (.slice e)) (he : Try.prog.underlying e = some (.int .i64)) (hc : Try.prog.cellsOf e = 1) (h : DataW.trod enc Try.prog W base spare held n t [v] = some y) : IsIntS W v := by
  rcases open_ints ht he hc h with ⟨hv, _⟩ | ⟨a, len, cap, zs, hv, _, hlc, hcm, hzl, _, hcell, hwf⟩
  · simp at hv; subst hv
    exact ⟨[], ⟨rfl, .inl ⟨⟨_, _, rfl⟩, rfl⟩⟩, fun z hz => by cases hz⟩
  · simp at hv; subst hv
    have hle : len ≤ zs.length := by rw [hzl]; split <;> omega
    have hrange : InI64 (zs.take len) := fun z hz => i64_range (hwf z (List.mem_of_mem_take hz))
    have hlen : (zs.take len).length = len := by simp; omega
    rcases Nat.eq_zero_or_pos len with h0 | h0
    · subst h0
      exact ⟨[], ⟨rfl, .inl ⟨⟨_, _, rfl⟩, rfl⟩⟩, fun z hz => by cases hz⟩
    · have c0 := hcell 0 (by omega)
      have hs : a.spot = none := by simpa [Addr.add] using addr_none c0
      obtain ⟨b, off, sp⟩ := a
      simp at hs; subst hs
      refine ⟨zs.take len, ⟨by simp, .inr ⟨b, off, cap, by rw [hlen], World.block_lt_of_cell? _ _ c0, by omega, by simpa [maxLen] using hcm, fun j u hj => ?_⟩⟩, hrange⟩
      have hj' := (List.getElem?_eq_some_iff.1 hj).1
      simp at hj'
      have := hcell j (by omega)
      rw [Addr.add_lit] at this
      rw [this, ← hj]
      have h2 : j < zs.length := by omega
      have h3 : j < len := by omega
      simp [List.getElem?_take, h3, List.getD, List.getElem?_eq_getElem h2]
end

theorem fill_step {xs ys : List Value} {k : Nat} (h : k < xs.length) (hl : xs.length = ys.length) : (xs.take k ++ ys.drop k).set k xs[k] = xs.take (k + 1) ++ ys.drop (k + 1) := by
  have hk : (xs.take k).length = k := by simp; omega
  have e : ys.drop k = ys[k]'(by omega) :: ys.drop (k + 1) := by rw [List.drop_eq_getElem_cons (by omega)]
  rw [List.set_append_right _ _ (by omega), hk, Nat.sub_self, e, List.set_cons_zero, List.take_succ_eq_append_getElem h, List.append_assoc]
  rfl
theorem fill_end {xs ys : List Value} {k : Nat} (h : xs.length ≤ k) (hl : xs.length = ys.length) : xs.take k ++ ys.drop k = xs := by
  rw [List.take_of_length_le h, List.drop_eq_nil_of_le (by omega), List.append_nil]
theorem laws_szIntS_ok (v : Value) (zs : List Int) (left : Int) (w : World) (h : RdI w v zs) (h0 : (zs.length : Int) ≤ left) (h1 : left ≤ 1048576) :
    Calls Try.prog 42 #[v, .int .i64 left] w fun e w' => e = .returned (.int .i64 (left - zs.length)) ∧ Below w.heap.size w w' := by
  obtain ⟨a, cap, rfl, hl⟩ := h.form
  clear h
  go_enter Try.func42, Try.ntmps42
  go_wp2_with fail
  go_ret
  exact ⟨rfl, (by repeat (first | exact Below.refl _ _ | assumption | refine Below.drew ?_ | refine below_drewN ?_ _ | refine Below.alloc ?_ (by first | omega | (simp <;> omega)) _ | refine Below.setCell ?_ (by first | omega | (simp <;> omega)) _ | refine Below.trans ?_ (Below.mono (by assumption) (by first | omega | (simp <;> omega)))))⟩
theorem laws_szIntS_no (v : Value) (zs : List Int) (left : Int) (w : World) (h : RdI w v zs) (h0 : left < (zs.length : Int)) (h1 : left ≤ 1048576) (h2 : 0 ≤ left) :
    Calls Try.prog 42 #[v, .int .i64 left] w fun e w' => e = .returned (.int .i64 (-1)) ∧ Below w.heap.size w w' := by
  obtain ⟨a, cap, rfl, hl⟩ := h.form
  clear h
  go_enter Try.func42, Try.ntmps42
  go_wp2_with fail
  go_ret
  exact ⟨rfl, (by repeat (first | exact Below.refl _ _ | assumption | refine Below.drew ?_ | refine below_drewN ?_ _ | refine Below.alloc ?_ (by first | omega | (simp <;> omega)) _ | refine Below.setCell ?_ (by first | omega | (simp <;> omega)) _ | refine Below.trans ?_ (Below.mono (by assumption) (by first | omega | (simp <;> omega)))))⟩

theorem laws_toIntS_any (v : Value) (zs : List Int) (w : World) (h : RdI w v zs) (hn : zs.length ≤ 1048576) :
    Calls Try.prog 57 #[v] w fun e w' => ∃ v', e = .returned v' ∧ OwnI w' w.heap.size v' zs ∧ Below w.heap.size w w' := by
  obtain ⟨i0, hi, hz0, hz1, hz2⟩ := info_parts info_int
  have hz : (madeCells (Value.int .i64 0).cells (zs.length * 1)).toList.length = zs.length := by rw [Array.length_toList, size_madeCells, Nat.mul_one]
  rcases h.cases0 with ⟨rfl, a1, cap1, rfl⟩ | ⟨hx, b1, off1, cap1, rfl, hb1, hl1, hm1, hc1⟩
  · clear h
    go_enter Try.func57, Try.ntmps57
    go_wp2_with (at_make; refine wpList_make_full _ rfl _ _ 23 rfl w.heap.size 3 i0 (.int .i64 0) 1 Try.underlying23 hi hz0 hz1 _ _ _ _ 0 rfl rfl (by omega) (by omega) (by omega) (by unfold maxLen; omega) (by simp) ?_; intro w1 hown1 hgr1)
    refine wp_loop_rounds 1 ?_
    rw [rounds_succ]
    go_wp2_with fail
    go_ret
    have e0 : (madeCells (Value.int IntKind.i64 0).cells (0 * 1)).toList = [] := List.eq_nil_of_length_eq_zero (by rw [Array.length_toList, size_madeCells])
    rw [e0] at hown1
    exact ⟨.slice (some ⟨w.heap.size, 0, none⟩) 0 0, rfl, hown1, (Below.refl _ w).grown hgr1 (Nat.le_refl _) (fun k hk => by cases hk)⟩
  · clear h
    have hbig : (8 : Int) * zs.length ≤ 8388608 := by omega
    go_enter Try.func57, Try.ntmps57
    go_wp2_with (at_make; refine wpList_make_full _ rfl _ _ 23 rfl w.heap.size 3 i0 (.int .i64 0) 1 Try.underlying23 hi hz0 hz1 _ _ _ _ zs.length rfl rfl (by omega) (by omega) (by rw [hz2]; omega) (by unfold maxLen; omega) (by simp) ?_; intro w1 hown1 hgr1)
    obtain ⟨ys, hys⟩ : ∃ ys, ys = (madeCells (Value.int .i64 0).cells (zs.length * 1)).toList := ⟨_, rfl⟩
    rw [← hys] at hown1 hz
    have hB1 : Below w.heap.size w w1 := (Below.refl _ w).grown hgr1 (Nat.le_refl _) (fun k hk => by cases hk)
    have H0 : Hid (w1.ownsRow w.heap.size 3 1 (.slice (some ⟨w.heap.size, 0, none⟩) zs.length zs.length) zs.length ((zs.map (Value.int .i64)).take 0 ++ ys.drop 0)) := hown1
    have hl0 : (zs.map (Value.int .i64)).length = ys.length := by rw [List.length_map, hz]
    have Hl0 := Lib.hid hl0
    clear hown1 hys hz hl0 hgr1
    go_wp2_with fail
    go_loopw [4] (fun i wr => ∃ k : Nat, k ≤ zs.length ∧ i = .int .i64 k ∧ Hid (wr.ownsRow w.heap.size 3 1 (.slice (some ⟨w.heap.size, 0, none⟩) zs.length zs.length) zs.length ((zs.map (Value.int .i64)).take k ++ ys.drop k)) ∧ Below w.heap.size w wr) (fun i _ => zs.length - (intOf i).toNat)
    case atStart => exact ⟨0, Nat.zero_le _, rfl, H0, hB1⟩
    case round =>
      obtain ⟨k, hk, rfl, hown, hbel⟩ := hrel
      clear H0 hB1
      by_cases hlt : k < zs.length
      · have g1 := hc1 k hlt
        have q1 := hbel.cell (p := ⟨b1, off1 + k, none⟩) hb1
        rw [g1] at q1
        obtain ⟨u, hu⟩ := marks_cell hown.out (j := k) (by omega)
        have hfz := hown.out.frozenAt k
        have hne : b1 ≠ w.heap.size := by omega
        have i1 : (k : Int) < (zs.length : Int) := by omega
        clear hc1 g1
        go_wp2_with fail
        go_roundw
        case rel =>
          refine ⟨k + 1, by omega, by go_num, ?_, ?_⟩
          · have := (hown.out.stored k (.int .i64 (zs[k]'hlt))).1
            have e : (Value.int .i64 (zs[k]'hlt)) = (zs.map (Value.int .i64))[k]'(by simpa using hlt) := by simp
            rw [e, fill_step (by simpa using hlt) Hl0.out, ← e] at this
            exact this
          · exact Below.setCell hbel (by simp) _
        case measure => simp [intOf]; omega
      · have e : k = zs.length := by omega
        subst e
        go_wp2_with fail
        go_ret
        refine ⟨_, rfl, ?_, hbel⟩
        have h1 := hown.out
        rw [fill_end (by simp) Hl0.out] at h1
        exact h1
end Go.Proofs.Ytbcjligkjoimmaa
