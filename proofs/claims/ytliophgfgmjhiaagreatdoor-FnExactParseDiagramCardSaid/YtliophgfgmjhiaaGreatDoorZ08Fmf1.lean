/- Numerals and the text of a normal form, in the program and in the reference. -/
import Derived.Test.YtliophgfgmjhiaaGreatDoorZ07Form1
import Derived.Test.YtliophgfgmjhiaaGreatDoorZ00M
import Derived.Test.YtliophgfgmjhiaaGreatDoorShelf
import Derived.Test.YtliophgfgmjhiaaGreatDoorZ04Brk
import Derived.Laws.IdiomStrings
import Derived.Lib.ItoaNum
namespace Go.Proofs.YtliophgfgmjhiaaGreatDoor
set_option linter.unusedSimpArgs false
set_option linter.unusedVariables false
set_option linter.unnecessarySimpa false
set_option maxRecDepth 200000
open Go.ChangeShapes Go.WideShapes Go.ChangeAt Go.RowKit

/-- The decimal numeral. -/
def numB (i : Nat) : ByteArray := ⟨(Lib.decDigits i).toArray⟩
theorem num_small (i : Nat) (h : i < 10) : numB i = ⟨#[UInt8.ofNat (48 + i)]⟩ := by unfold numB; rw [Lib.decDigits, dif_pos h]
theorem num_big (i : Nat) (h : 10 ≤ i) : numB i = numB (i / 10) ++ ⟨#[UInt8.ofNat (48 + i % 10)]⟩ := by
  unfold numB
  conv => lhs; rw [Lib.decDigits, dif_neg (by omega)]
  apply ByteArray.ext
  simp
theorem num_size {i : Nat} (h : i < 100) : (numB i).size ≤ 2 := by
  by_cases h1 : i < 10
  · rw [num_small i h1]; simp [ByteArray.size]
  · rw [num_big i (by omega), num_small (i / 10) (by omega)]; simp [ByteArray.size_append, ByteArray.size]
theorem u8_of (i : Nat) (h : i < 10) : ((UInt8.ofNat (48 + i)).toNat : Int) = 48 + (i : Int) := by
  rw [UInt8.toNat_ofNat']; omega
def formHead (s : ByteArray) : ByteArray := if s.size = 0 then ⟨#[45]⟩ else s
def formText (s : ByteArray) (c p : Nat) : ByteArray := formHead s ++ ⟨#[32]⟩ ++ numB c ++ ⟨#[32]⟩ ++ numB p
def formStr (s : ByteArray) (c p : Int) : ByteArray := if validForm s c p = true then formText s c.toNat p.toNat else ⟨#[]⟩
theorem formStr_no {s : ByteArray} {c p : Int} (h : validForm s c p = false) : formStr s c p = ⟨#[]⟩ := by unfold formStr; rw [h]; rfl
theorem formStr_yes {s : ByteArray} {c p : Int} (h : validForm s c p = true) : formStr s c p = formText s c.toNat p.toNat := by unfold formStr; rw [h]; rfl
theorem form_parts {s : ByteArray} {c p : Int} (h : validForm s c p = true) : (s.size ≤ 40) ∧ (0 ≤ c ∧ c ≤ 23) ∧ (0 ≤ p ∧ p ≤ 7) := by
  unfold validForm inB at h
  simp at h
  omega
theorem size_zero {s : ByteArray} (h : s.size = 0) : s = ⟨#[]⟩ := by
  apply ByteArray.ext
  exact Array.eq_empty_of_size_eq_zero h
theorem str_ne {s : ByteArray} (h : s.size ≠ 0) : s.toList.isEmpty = false := by
  rw [Lib.toList_data, ← Bool.not_eq_true, List.isEmpty_iff]
  intro e
  exact h (by rw [ByteArray.size, ← Array.length_toList, e]; rfl)
theorem text_nil (c p : Nat) : formText ⟨#[]⟩ c p = ⟨#[45]⟩ ++ ⟨#[32]⟩ ++ numB c ++ ⟨#[32]⟩ ++ numB p := rfl
theorem text_str {s : ByteArray} (h : s.size ≠ 0) (c p : Nat) : formText s c p = s ++ ⟨#[32]⟩ ++ numB c ++ ⟨#[32]⟩ ++ numB p := by unfold formText formHead; rw [if_neg h]
theorem ret_str {a b : ByteArray} (h : a = b) : Ending.returned (.string a) = .returned (.string b) := by rw [h]
theorem conv_at {W : World} {g i : Nat} {b : UInt8} (hb : (b.toNat : Int) = 48 + (i : Int)) (hc : W.cell? ⟨g, 0, none⟩ = some (.int .u8 (48 + (i : Int)))) : (Sem.run Tryz.prog (convert 73 9 (Value.slice (some { block := g, off := 0 }) 1 1)) W) = .ok (.string ⟨#[b]⟩) W := by
  exact run_convert_bytes_back (P := Tryz.prog) _ 73 9 5 ⟨g, 0, none⟩ 1 [b] Tryz.underlying73 Tryz.underlying5 Tryz.underlying9 (fun j hj => by
    have h0 : j = 0 := by simpa using hj
    subst h0
    simp only [List.getElem_cons_zero]
    rw [hb]
    exact hc)
theorem conv_one {w : World} {i : Nat} {b : UInt8} (hb : (b.toNat : Int) = 48 + (i : Int)) : (Sem.run Tryz.prog (convert 73 9 (Value.slice (some { block := w.heap.size, off := 0 }) 1 1)) (w.alloc (Obj.cells #[Value.int IntKind.u8 (48 + (i : Int))] 5))) = .ok (.string ⟨#[b]⟩) (w.alloc (Obj.cells #[Value.int IntKind.u8 (48 + (i : Int))] 5)) :=
  conv_at hb (by repeat (first | (refine Eq.trans (World.cell?_alloc_at _ _ _ _ ?hh) ?_; (case hh => (simp; done)); rfl) | refine cell_alloc_keep _ ?_))
set_option maxHeartbeats 1000000 in
theorem spec_l1Num_1 (i : Nat) (w : World) (h : i < 10) :
    Calls Tryz.prog 43 #[.int .i64 (i : Int)] w fun e w' => e = .returned (.string (numB i)) ∧ Below w.heap.size w w' := by
  have i1 : (i : Int) < 10 := by omega
  have hw : IntKind.i64.wrap (48 + (i : Int)) = 48 + (i : Int) := IntWalk.i64_in _ (by omega)
  obtain ⟨b, hb⟩ : ∃ b, b = UInt8.ofNat (48 + i) := ⟨_, rfl⟩
  have hcv := conv_one (w := w) (i := i) (b := b) (by rw [hb]; exact u8_of i h)
  have HN := Lib.hid (show numB i = ⟨#[b]⟩ from by rw [hb]; exact num_small i h)
  clear hb
  go_enter Tryz.func43, Tryz.ntmps43
  go_wp2_with fail
  go_ret
  exact ⟨ret_str HN.out.symm, (by repeat (first | exact Below.refl _ _ | assumption | refine Below.drew ?_ | refine below_drewN ?_ _ | refine Below.alloc ?_ (by first | omega | (simp <;> omega)) _ | refine Below.setCell ?_ (by first | omega | (simp <;> omega)) _ | refine Below.trans ?_ (Below.mono (by assumption) (by first | omega | (simp <;> omega)))))⟩
set_option maxHeartbeats 2000000 in
theorem spec_l1Num_any (i : Nat) (w : World) (h : i < 100) :
    Calls Tryz.prog 43 #[.int .i64 (i : Int)] w fun e w' => e = .returned (.string (numB i)) ∧ Below w.heap.size w w' := by
  by_cases h1 : i < 10
  · exact spec_l1Num_1 i w h1
  · have i1 : ¬ (i : Int) < 10 := by omega
    obtain ⟨q, hq⟩ : ∃ q, q = i / 10 := ⟨_, rfl⟩
    obtain ⟨r, hr⟩ : ∃ r, r = i % 10 := ⟨_, rfl⟩
    obtain ⟨b, hb⟩ : ∃ b, b = UInt8.ofNat (48 + i % 10) := ⟨_, rfl⟩
    have hd : (i : Int).tdiv 10 = (q : Int) := by rw [Int.tdiv_eq_ediv_of_nonneg (by omega)]; omega
    have hd2 : (i : Int) / 10 = (q : Int) := by omega
    have hm : (i : Int).tmod 10 = (r : Int) := by rw [Int.tmod_eq_emod_of_nonneg (by omega)]; omega
    have hm2 : (i : Int) % 10 = (r : Int) := by omega
    have hwq : IntKind.i64.wrap (q : Int) = (q : Int) := IntWalk.i64_in _ (by omega)
    have hw : IntKind.i64.wrap (48 + (r : Int)) = 48 + (r : Int) := IntWalk.i64_in _ (by omega)
    have hbr : Hid ((b.toNat : Int) = 48 + (r : Int)) := (by rw [hb, hr]; exact u8_of (i % 10) (by omega))
    have hcv := fun w => conv_one (w := w) hbr.out
    have hcv3 := conv_at hbr.out (show (w.alloc (Obj.cells #[Value.int IntKind.u8 (48 + (r : Int))] 5)).drew.cell? ⟨w.heap.size, 0, none⟩ = some (.int .u8 (48 + (r : Int))) from (by repeat (first | (refine Eq.trans (World.cell?_alloc_at _ _ _ _ ?hh) ?_; (case hh => (simp; done)); rfl) | refine cell_alloc_keep _ ?_ | refine cell_drew ?_ | refine below_cell (by assumption) rfl ?_)))
    have HN := Lib.hid (show numB i = numB q ++ ⟨#[b]⟩ from by rw [hb, hq]; exact num_big i (by omega))
    have q10 : q < 10 := by omega
    have r10 : r < 10 := by omega
    have r11 : (r : Int) < 10 := by omega
    have hw8 : IntKind.u8.wrap (48 + (r : Int)) = 48 + (r : Int) := IntWalk.u8_in _ (by omega)
    have r12 : (0 : Int) ≤ (r : Int) := by omega
    have k1 := num_size (i := q) (by omega)
    have k2 : ¬ 9223372036854775807 < (numB q).size + 1 := by omega
    clear hb hq hr
    have bw := Lib.hid (Below.refl w.heap.size w)
    go_enter Tryz.func43, Tryz.ntmps43
    go_wp2_with fail
    refine AnyB.begin (S := (fun w' => True)) [] (by kernel_rfl) ?_ (fun hHeld0 => ?_)
    · ((try dsimp only); (try trivial))
    refine AnyB.takeQ (i := 0) (oi := _) (v := ?_) (by simp only [List.getElem?_toArray, List.getElem?_cons_zero, List.getElem?_cons_succ]; rfl) (by kernel_rfl) (by kernel_rfl) (by kernel_rfl) (by intro _ _ _ h; exact h) (Or.inl ⟨by rfl, ?_⟩) ?_
    rotate_left
    · (intro w hSw; (try dsimp only at hSw); go_simp; (try (with_reducible rfl)))
    try simp only [Act.put, List.setIfInBounds_toArray, List.set_cons_zero, List.set_cons_succ]
    refine AnyB.takeQ (i := 1) (oi := _) (v := ?_) (by simp only [List.getElem?_toArray, List.getElem?_cons_zero, List.getElem?_cons_succ]; rfl) (by kernel_rfl) (by kernel_rfl) (by kernel_rfl) (by intro _ _ _ h; exact h) (Or.inl ⟨by rfl, ?_⟩) ?_
    rotate_left
    · (intro w hSw; (try dsimp only at hSw); go_simp; (try (with_reducible rfl)))
    try simp only [Act.put, List.setIfInBounds_toArray, List.set_cons_zero, List.set_cons_succ]
    refine AnyB.takeQ (i := 3) (oi := _) (v := ?_) (by simp only [List.getElem?_toArray, List.getElem?_cons_zero, List.getElem?_cons_succ]; rfl) (by kernel_rfl) (by kernel_rfl) (by kernel_rfl) (by intro _ _ _ h; exact h) (Or.inl ⟨by rfl, ?_⟩) ?_
    rotate_left
    · (intro w hSw; (try dsimp only at hSw); go_simp; (try (with_reducible rfl)))
    try simp only [Act.put, List.setIfInBounds_toArray, List.set_cons_zero, List.set_cons_succ]
    refine AnyB.takeQ (i := 4) (oi := _) (v := ?_) (by simp only [List.getElem?_toArray, List.getElem?_cons_zero, List.getElem?_cons_succ]; rfl) (by kernel_rfl) (by kernel_rfl) (by kernel_rfl) (by intro _ _ _ h; exact h) (Or.inl ⟨by rfl, ?_⟩) ?_
    rotate_left
    · (intro w hSw; (try dsimp only at hSw); go_simp; (try (with_reducible rfl)))
    try simp only [Act.put, List.setIfInBounds_toArray, List.set_cons_zero, List.set_cons_succ]
    refine AnyB.takeQ (i := 5) (oi := _) (v := ?_) (by simp only [List.getElem?_toArray, List.getElem?_cons_zero, List.getElem?_cons_succ]; rfl) (by kernel_rfl) (by kernel_rfl) (by kernel_rfl) (by intro _ _ _ h; exact h) (Or.inl ⟨by rfl, ?_⟩) ?_
    rotate_left
    · (intro w hSw; (try dsimp only at hSw); go_simp; (try (with_reducible rfl)))
    try simp only [Act.put, List.setIfInBounds_toArray, List.set_cons_zero, List.set_cons_succ]
    refine AnyB.takeQ (i := 6) (oi := _) (v := ?_) (by simp only [List.getElem?_toArray, List.getElem?_cons_zero, List.getElem?_cons_succ]; rfl) (by kernel_rfl) (by kernel_rfl) (by kernel_rfl) (by intro _ _ _ h; exact h) (Or.inl ⟨by rfl, ?_⟩) ?_
    rotate_left
    · (intro w hSw; (try dsimp only at hSw); go_simp; (try (with_reducible rfl)))
    try simp only [Act.put, List.setIfInBounds_toArray, List.set_cons_zero, List.set_cons_succ]
    refine AnyB.each (rs := [2, 7]) (by kernel_rfl) (by simp) ?_
    refine EachB.cons rfl (fun K hK hB => ?_) ?_
    · skip
      (go_simp; go_at_call 43; refine (spec_l1Num_1 q _ q10).mono ?_; rintro e w1 ⟨rfl, hb1⟩; (try have hcv2 := conv_at hbr.out (below_cell hb1 rfl (show (w.alloc (Obj.cells #[Value.int IntKind.u8 (48 + (r : Int))] 5)).drew.cell? ⟨w.heap.size, 0, none⟩ = some (.int .u8 (48 + (r : Int))) from (by repeat (first | (refine Eq.trans (World.cell?_alloc_at _ _ _ _ ?hh) ?_; (case hh => (simp; done)); rfl) | refine cell_alloc_keep _ ?_ | refine cell_drew ?_ | refine below_cell (by assumption) rfl ?_))))); replace bw := Lib.hid (show Below w.heap.size w w1 from by first | exact Below.trans (show Below w.heap.size w (w.alloc (Obj.cells #[Value.int IntKind.u8 (48 + (r : Int))] 5)).drew from (by repeat (first | exact Below.refl _ _ | assumption | refine Below.drew ?_ | refine below_drewN ?_ _ | refine Below.alloc ?_ (by first | omega | (simp <;> omega)) _ | refine Below.setCell ?_ (by first | omega | (simp <;> omega)) _ | refine Below.trans ?_ (Below.mono (by assumption) (by first | omega | (simp <;> omega)))))) (Below.mono hb1 (by first | omega | (simp; done) | (simp; omega))) | exact Below.trans bw.out (Below.mono hb1 (by first | omega | (simp; done) | (simp; omega))) | exact Below.trans (Below.drew bw.out) (Below.mono hb1 (by first | omega | (simp; done) | (simp; omega)))); clear hb1; dsimp only)
      refine hK.out _ _ ?_ (fun hHeld1 => ?_)
      · ((try dsimp only); (try trivial))
      clear hB hK K hHeld0
      refine AnyB.each (rs := [7]) (by kernel_rfl) (by simp) ?_
      refine EachB.cons rfl (fun K hK hB => ?_) ?_
      · skip
        go_simp
        refine hK.out _ _ ?_ (fun hHeld2 => ?_)
        · ((try dsimp only); (try trivial))
        clear hB hK K hHeld1
        refine AnyB.each (rs := [8]) (by kernel_rfl) (by simp) ?_
        refine EachB.cons rfl (fun K hK hB => ?_) ?_
        · skip
          go_simp
          refine hK.out _ _ ?_ (fun hHeld3 => ?_)
          · ((try dsimp only); (try trivial))
          clear hB hK K hHeld2
          refine AnyB.takeQ (i := 9) (oi := _) (v := ?_) (by simp only [List.getElem?_toArray, List.getElem?_cons_zero, List.getElem?_cons_succ]; rfl) (by kernel_rfl) (by kernel_rfl) (by kernel_rfl) (by intro _ _ _ h; exact h) (Or.inl ⟨by rfl, ?_⟩) ?_
          rotate_left
          · (intro w hSw; (try dsimp only at hSw); go_simp; (try (with_reducible rfl)))
          try simp only [Act.put, List.setIfInBounds_toArray, List.set_cons_zero, List.set_cons_succ]
          refine AnyB.takeQ (i := 10) (oi := _) (v := ?_) (by simp only [List.getElem?_toArray, List.getElem?_cons_zero, List.getElem?_cons_succ]; rfl) (by kernel_rfl) (by kernel_rfl) (by kernel_rfl) (by intro _ _ _ h; exact h) (Or.inl ⟨by rfl, ?_⟩) ?_
          rotate_left
          · (intro w hSw; (try dsimp only at hSw); go_simp; (try (with_reducible rfl)))
          try simp only [Act.put, List.setIfInBounds_toArray, List.set_cons_zero, List.set_cons_succ]
          refine AnyB.none (by kernel_rfl) ?_ _
          go_wp2_with fail
          go_ret
          exact ⟨ret_str HN.out.symm, by first | exact Below.alloc bw.out bw.out.size _ | exact bw.out | exact Below.drew (Below.alloc bw.out bw.out.size _)⟩
        exact EachB.nil
      exact EachB.nil
    refine EachB.cons rfl (fun K hK hB => ?_) ?_
    · skip
      go_simp
      refine hK.out _ _ ?_ (fun hHeld4 => ?_)
      · ((try dsimp only); (try trivial))
      clear hB hK K hHeld0
      refine AnyB.each (rs := [2, 8]) (by kernel_rfl) (by simp) ?_
      refine EachB.cons rfl (fun K hK hB => ?_) ?_
      · skip
        (go_simp; go_at_call 43; refine (spec_l1Num_1 q _ q10).mono ?_; rintro e w1 ⟨rfl, hb1⟩; (try have hcv2 := conv_at hbr.out (below_cell hb1 rfl (show (w.alloc (Obj.cells #[Value.int IntKind.u8 (48 + (r : Int))] 5)).drew.cell? ⟨w.heap.size, 0, none⟩ = some (.int .u8 (48 + (r : Int))) from (by repeat (first | (refine Eq.trans (World.cell?_alloc_at _ _ _ _ ?hh) ?_; (case hh => (simp; done)); rfl) | refine cell_alloc_keep _ ?_ | refine cell_drew ?_ | refine below_cell (by assumption) rfl ?_))))); replace bw := Lib.hid (show Below w.heap.size w w1 from by first | exact Below.trans (show Below w.heap.size w (w.alloc (Obj.cells #[Value.int IntKind.u8 (48 + (r : Int))] 5)).drew from (by repeat (first | exact Below.refl _ _ | assumption | refine Below.drew ?_ | refine below_drewN ?_ _ | refine Below.alloc ?_ (by first | omega | (simp <;> omega)) _ | refine Below.setCell ?_ (by first | omega | (simp <;> omega)) _ | refine Below.trans ?_ (Below.mono (by assumption) (by first | omega | (simp <;> omega)))))) (Below.mono hb1 (by first | omega | (simp; done) | (simp; omega))) | exact Below.trans bw.out (Below.mono hb1 (by first | omega | (simp; done) | (simp; omega))) | exact Below.trans (Below.drew bw.out) (Below.mono hb1 (by first | omega | (simp; done) | (simp; omega)))); clear hb1; dsimp only)
        refine hK.out _ _ ?_ (fun hHeld5 => ?_)
        · ((try dsimp only); (try trivial))
        clear hB hK K hHeld4
        refine AnyB.each (rs := [8]) (by kernel_rfl) (by simp) ?_
        refine EachB.cons rfl (fun K hK hB => ?_) ?_
        · skip
          go_simp
          refine hK.out _ _ ?_ (fun hHeld6 => ?_)
          · ((try dsimp only); (try trivial))
          clear hB hK K hHeld5
          refine AnyB.takeQ (i := 9) (oi := _) (v := ?_) (by simp only [List.getElem?_toArray, List.getElem?_cons_zero, List.getElem?_cons_succ]; rfl) (by kernel_rfl) (by kernel_rfl) (by kernel_rfl) (by intro _ _ _ h; exact h) (Or.inl ⟨by rfl, ?_⟩) ?_
          rotate_left
          · (intro w hSw; (try dsimp only at hSw); go_simp; (try (with_reducible rfl)))
          try simp only [Act.put, List.setIfInBounds_toArray, List.set_cons_zero, List.set_cons_succ]
          refine AnyB.takeQ (i := 10) (oi := _) (v := ?_) (by simp only [List.getElem?_toArray, List.getElem?_cons_zero, List.getElem?_cons_succ]; rfl) (by kernel_rfl) (by kernel_rfl) (by kernel_rfl) (by intro _ _ _ h; exact h) (Or.inl ⟨by rfl, ?_⟩) ?_
          rotate_left
          · (intro w hSw; (try dsimp only at hSw); go_simp; (try (with_reducible rfl)))
          try simp only [Act.put, List.setIfInBounds_toArray, List.set_cons_zero, List.set_cons_succ]
          refine AnyB.none (by kernel_rfl) ?_ _
          go_wp2_with fail
          go_ret
          exact ⟨ret_str HN.out.symm, by first | exact Below.alloc bw.out bw.out.size _ | exact bw.out | exact Below.drew (Below.alloc bw.out bw.out.size _)⟩
        exact EachB.nil
      refine EachB.cons rfl (fun K hK hB => ?_) ?_
      · skip
        go_simp
        refine hK.out _ _ ?_ (fun hHeld7 => ?_)
        · ((try dsimp only); (try trivial))
        clear hB hK K hHeld4
        refine AnyB.each (rs := [2]) (by kernel_rfl) (by simp) ?_
        refine EachB.cons rfl (fun K hK hB => ?_) ?_
        · skip
          (go_simp; go_at_call 43; refine (spec_l1Num_1 q _ q10).mono ?_; rintro e w1 ⟨rfl, hb1⟩; (try have hcv2 := conv_at hbr.out (below_cell hb1 rfl (show (w.alloc (Obj.cells #[Value.int IntKind.u8 (48 + (r : Int))] 5)).drew.cell? ⟨w.heap.size, 0, none⟩ = some (.int .u8 (48 + (r : Int))) from (by repeat (first | (refine Eq.trans (World.cell?_alloc_at _ _ _ _ ?hh) ?_; (case hh => (simp; done)); rfl) | refine cell_alloc_keep _ ?_ | refine cell_drew ?_ | refine below_cell (by assumption) rfl ?_))))); replace bw := Lib.hid (show Below w.heap.size w w1 from by first | exact Below.trans (show Below w.heap.size w (w.alloc (Obj.cells #[Value.int IntKind.u8 (48 + (r : Int))] 5)).drew from (by repeat (first | exact Below.refl _ _ | assumption | refine Below.drew ?_ | refine below_drewN ?_ _ | refine Below.alloc ?_ (by first | omega | (simp <;> omega)) _ | refine Below.setCell ?_ (by first | omega | (simp <;> omega)) _ | refine Below.trans ?_ (Below.mono (by assumption) (by first | omega | (simp <;> omega)))))) (Below.mono hb1 (by first | omega | (simp; done) | (simp; omega))) | exact Below.trans bw.out (Below.mono hb1 (by first | omega | (simp; done) | (simp; omega))) | exact Below.trans (Below.drew bw.out) (Below.mono hb1 (by first | omega | (simp; done) | (simp; omega)))); clear hb1; dsimp only)
          refine hK.out _ _ ?_ (fun hHeld8 => ?_)
          · ((try dsimp only); (try trivial))
          clear hB hK K hHeld7
          refine AnyB.takeQ (i := 9) (oi := _) (v := ?_) (by simp only [List.getElem?_toArray, List.getElem?_cons_zero, List.getElem?_cons_succ]; rfl) (by kernel_rfl) (by kernel_rfl) (by kernel_rfl) (by intro _ _ _ h; exact h) (Or.inl ⟨by rfl, ?_⟩) ?_
          rotate_left
          · (intro w hSw; (try dsimp only at hSw); go_simp; (try (with_reducible rfl)))
          try simp only [Act.put, List.setIfInBounds_toArray, List.set_cons_zero, List.set_cons_succ]
          refine AnyB.takeQ (i := 10) (oi := _) (v := ?_) (by simp only [List.getElem?_toArray, List.getElem?_cons_zero, List.getElem?_cons_succ]; rfl) (by kernel_rfl) (by kernel_rfl) (by kernel_rfl) (by intro _ _ _ h; exact h) (Or.inl ⟨by rfl, ?_⟩) ?_
          rotate_left
          · (intro w hSw; (try dsimp only at hSw); go_simp; (try (with_reducible rfl)))
          try simp only [Act.put, List.setIfInBounds_toArray, List.set_cons_zero, List.set_cons_succ]
          refine AnyB.none (by kernel_rfl) ?_ _
          go_wp2_with fail
          go_ret
          exact ⟨ret_str HN.out.symm, by first | exact Below.alloc bw.out bw.out.size _ | exact bw.out | exact Below.drew (Below.alloc bw.out bw.out.size _)⟩
        exact EachB.nil
      exact EachB.nil
    exact EachB.nil
theorem itoa_small (i : Nat) (hi : i < 100) (w : World) : Calls Tryz.prog 30 #[.int .i64 (i : Int)] w fun e w' => e = .returned (.string (numB i)) ∧ w' = w := Tryz.strconv_Itoa_small i hi w
end Go.Proofs.YtliophgfgmjhiaaGreatDoor
