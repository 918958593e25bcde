/- The normal form at an index, in the program and in the reference. -/
import Derived.Test.YtekljechannabaaForm1
import Derived.Test.YtekljechannabaaTwo1
import Derived.Test.YtekljechannabaaSlice0
import Derived.WalkSpells
import Derived.WalkLawsBesides
import Derived.RegionTactic
import Derived.BigRegion
import Derived.Deep.DrawnRows
namespace Go.Proofs.Ytekljechannabaa
set_option linter.unusedSimpArgs false
set_option linter.unusedVariables false
open Go.ChangeShapes Go.WideShapes Go.ChangeAt Go.RowKit
attribute [local go_sem ↓] Go.wp_at_zero Go.wp_at_succ

/-- The letters that j rounds write ahead, from a number q on. -/
def sy : Nat → Nat → List UInt8
  | 0, _ => []
  | j + 1, q => (if q / 2 ^ j % 2 = 0 then 72 else 83) :: sy j q
def syF (n k : Nat) : List UInt8 := if n = 0 then [] else (if k / 24 / 2 ^ (n - 1) = 0 then 84 else if k / 24 / 2 ^ (n - 1) = 1 then 72 else 83) :: sy (n - 1) (k / 24)
theorem half_step (q j : Nat) : q / 2 ^ j / 2 = q / 2 ^ (j + 1) := by
  rw [Nat.div_div_eq_div_mul, Nat.pow_succ]
def SyIs (v : Value) (l : List UInt8) : Prop := ∃ s : ByteArray, v = .string s ∧ s.data.toList = l

theorem sy_len (j q : Nat) : (sy j q).length = j := by induction j <;> simp_all [sy]
theorem ex_01 : (⟨#[72, 83]⟩ : ByteArray).extract 0 1 = ⟨#[72]⟩ := by decide +kernel
theorem ex_12 : (⟨#[72, 83]⟩ : ByteArray).extract 1 2 = ⟨#[83]⟩ := by decide +kernel
theorem ths_0 : (⟨#[84, 72, 83]⟩ : ByteArray).extract 0 1 = ⟨#[84]⟩ := by decide +kernel
theorem ths_1 : (⟨#[84, 72, 83]⟩ : ByteArray).extract 1 2 = ⟨#[72]⟩ := by decide +kernel
theorem ths_2 : (⟨#[84, 72, 83]⟩ : ByteArray).extract 2 3 = ⟨#[83]⟩ := by decide +kernel
theorem countF_bd (n : Nat) (hn : n ≤ 20) : 1 ≤ countF n ∧ countF n ≤ 37748736 := by
  have h : ∀ n : Nat, n < 21 → 1 ≤ countF n ∧ countF n ≤ 37748736 := by decide +kernel
  exact h n (by omega)
set_option maxHeartbeats 1000000 in
theorem impl_FormAt_t (n k : Nat) (w : World) (hn : n ≤ 20) (hk : k < 37748736) (hk3 : k / 24 / 2 ^ (n - 1) < 3) (hl : inB n 0 20 = true) (hc : decide ((0 : Int) ≤ k ∧ (k : Int) ≤ countF n - 1) = true) :
    Calls Try.prog 23 #[.int .i64 n, .int .i64 k] w fun e w' => ∃ s : ByteArray, e = .returned (.tuple #[.agg #[.string s, .int .i64 ((k : Int) % 24), .int .i64 0], .bool true]) ∧ s.data.toList = syF n k ∧ Below w.heap.size w w' := by
  obtain ⟨cb1, cb2⟩ := countF_bd n hn
  have Hl := Lib.hid hl; have Hc := Lib.hid hc; clear hl hc
  go_enter Try.func23, Try.ntmps23
  go_wp2_with fail
  refine (implCountForms_any _ _).mono ?_; rintro e w' ⟨rfl, rfl⟩
  rw [if_pos Hl.out]
  go_wp2_with fail
  refine (within_p _ _ _ _).mono ?_; rintro e w' ⟨rfl, rfl⟩
  rw [Hc.out]
  go_wp2_with fail
  go_loopw [9, 10] (fun q i wr => ∃ (j Q : Nat) (v : Value), q = .int .i64 Q ∧ Hid (Q = k / 24 / 2 ^ j) ∧ i = .int .i64 ((n : Int) - 1 - j) ∧ (j = 0 ∨ j < n) ∧ SyIs v (sy j (k / 24)) ∧ wr.cell? ⟨w.heap.size + 1, 0, none⟩ = some v ∧ wr.cell? ⟨w.heap.size + 1, 1, none⟩ = some (.int .i64 ((k : Int) % 24)) ∧ wr.cell? ⟨w.heap.size + 1, 2, none⟩ = some (.int .i64 0) ∧ wr.frozen? ⟨w.heap.size + 1, 0, none⟩ = false ∧ Below (w.heap.size + 1) (w.alloc (.cells #[.string ⟨#[]⟩, .int .i64 0, .int .i64 0] 29)) wr ∧ w.heap.size + 2 ≤ wr.heap.size) (fun _ i _ => (intOf i).toNat)
  case atStart => exact ⟨0, k / 24, _, rfl, by show _ = _; simp, ret_num (by omega), .inl rfl, ⟨_, rfl, rfl⟩, (by repeat (first | (refine Eq.trans (World.cell?_alloc_at _ _ _ _ ?hh) ?_; (case hh => (simp; done)); rfl) | refine cell_alloc_keep _ ?_)), (by repeat (first | (refine Eq.trans (World.cell?_alloc_at _ _ _ _ ?hh) ?_; (case hh => (simp; done)); rfl) | refine cell_alloc_keep _ ?_)), (by repeat (first | (refine Eq.trans (World.cell?_alloc_at _ _ _ _ ?hh) ?_; (case hh => (simp; done)); rfl) | refine cell_alloc_keep _ ?_)), (by repeat (first | (refine World.frozen?_alloc_at _ _ _ _ ?hh; case hh => (simp; done)) | (refine frozen_alloc_lt _ ?hh ?_; case hh => first | omega | (simp <;> omega)))), (by repeat (first | exact Below.refl _ _ | assumption | refine Below.drew ?_ | refine below_drewN ?_ _ | refine Below.alloc ?_ (by first | omega | (simp <;> omega)) _ | refine Below.setCell ?_ (by first | omega | (simp <;> omega)) _ | refine Below.trans ?_ (Below.mono (by assumption) (by first | omega | (simp <;> omega))))), by simp⟩
  case round =>
    obtain ⟨j, Q, v, rfl, hQ, rfl, hj, ⟨s, rfl, hs⟩, hc0, hc1, hc2, hf0, hbel, hsz⟩ := hrel
    have hsl : s.size ≤ 20 := by
      have h := congrArg List.length hs
      rw [sy_len] at h
      have : s.size = s.data.toList.length := by simp
      omega
    have hQb : Q ≤ k := by rw [hQ.out]; exact Nat.le_trans (Nat.div_le_self _ _) (Nat.div_le_self _ _)
    have Hs := Lib.hid hs; clear hs
    by_cases hlt : j + 1 < n
    · rcases Nat.mod_two_eq_zero_or_one Q with hm | hm
      · have hm' : (Q : Int).tmod 2 = 0 := by rw [Int.tmod_eq_emod_of_nonneg (by omega)]; omega
        have hm2 : (Q : Int) % 2 = 0 := by omega
        have Hm := Lib.hid hm; clear hm
        have hw1 : IntKind.i64.wrap (0 + 1) = 1 := by decide
        have hw2 : IntKind.i64.wrap 1 = 1 := by decide
        have hx := ex_01
        go_wp2_with fail
        go_region
        go_wp2_with fail
        go_roundw
        case rel =>
          refine ⟨j + 1, Q / 2, _, ret_num (by omega), ?_, ret_num (by omega), .inr hlt, ⟨_, rfl, ?_⟩, World.cell?_setCell_same _ _ _ hc0, ?_, ?_, ?_, (by repeat (first | exact Below.refl _ _ | assumption | refine Below.drew ?_ | refine below_drewN ?_ _ | refine Below.alloc ?_ (by first | omega | (simp <;> omega)) _ | refine Below.setCell ?_ (by first | omega | (simp <;> omega)) _ | refine Below.trans ?_ (Below.mono (by assumption) (by first | omega | (simp <;> omega))))), ?_⟩
          · show _ = _
            rw [hQ.out, half_step]
          · rw [ByteArray.data_append, Array.toList_append, Hs.out]
            simp only [sy]
            rw [← hQ.out, Hm.out]
            rfl
          · rw [World.cell?_drew, World.cell?_setCell_other _ _ _ _ (by simp)]; exact hc1
          · rw [World.cell?_drew, World.cell?_setCell_other _ _ _ _ (by simp)]; exact hc2
          · rw [World.frozen?_drew, World.frozen?_setCell]; exact hf0
          · simpa using hsz
        case measure => simp [intOf]; omega
      · have hm' : (Q : Int).tmod 2 = 1 := by rw [Int.tmod_eq_emod_of_nonneg (by omega)]; omega
        have hm2 : (Q : Int) % 2 = 1 := by omega
        have Hm := Lib.hid hm; clear hm
        have hw1 : IntKind.i64.wrap (1 + 1) = 2 := by decide
        have hw2 : IntKind.i64.wrap 2 = 2 := by decide
        have hx := ex_12
        go_wp2_with fail
        go_region
        go_wp2_with fail
        go_roundw
        case rel =>
          refine ⟨j + 1, Q / 2, _, ret_num (by omega), ?_, ret_num (by omega), .inr hlt, ⟨_, rfl, ?_⟩, World.cell?_setCell_same _ _ _ hc0, ?_, ?_, ?_, (by repeat (first | exact Below.refl _ _ | assumption | refine Below.drew ?_ | refine below_drewN ?_ _ | refine Below.alloc ?_ (by first | omega | (simp <;> omega)) _ | refine Below.setCell ?_ (by first | omega | (simp <;> omega)) _ | refine Below.trans ?_ (Below.mono (by assumption) (by first | omega | (simp <;> omega))))), ?_⟩
          · show _ = _
            rw [hQ.out, half_step]
          · rw [ByteArray.data_append, Array.toList_append, Hs.out]
            simp only [sy]
            rw [← hQ.out, Hm.out]
            rfl
          · rw [World.cell?_drew, World.cell?_setCell_other _ _ _ _ (by simp)]; exact hc1
          · rw [World.cell?_drew, World.cell?_setCell_other _ _ _ _ (by simp)]; exact hc2
          · rw [World.frozen?_drew, World.frozen?_setCell]; exact hf0
          · simpa using hsz
        case measure => simp [intOf]; omega
    · have hk3 := Lib.hid hk3
      have hr0 : wr.cell? ⟨w.heap.size, 0, none⟩ = some (.string ⟨#[]⟩) := by rw [hbel.cell (p := ⟨w.heap.size, 0, none⟩) (by simp)]; simp
      have hr1 : wr.cell? ⟨w.heap.size, 1, none⟩ = some (.int .i64 0) := by rw [hbel.cell (p := ⟨w.heap.size, 1, none⟩) (by simp)]; simp
      have hr2 : wr.cell? ⟨w.heap.size, 2, none⟩ = some (.int .i64 0) := by rw [hbel.cell (p := ⟨w.heap.size, 2, none⟩) (by simp)]; simp
      have hrf : ∀ o, wr.frozen? ⟨w.heap.size, o, none⟩ = false := fun o => by rw [hbel.frozen (p := ⟨w.heap.size, o, none⟩) (by simp)]; simp
      rcases Nat.eq_zero_or_pos n with hn0 | hn0
      · subst hn0
        have hj0 : j = 0 := by omega
        subst hj0
        go_wp2_with fail
        refine bodyPost_ret (v := .tuple #[.agg #[_, _, _], .bool true]) (by simp [results, Try.results23, go_sem, hr0, hr1, hr2]) rfl ⟨s, rfl, ?_, (by repeat (first | exact Below.refl _ _ | assumption | refine Below.drew ?_ | refine below_drewN ?_ _ | refine Below.alloc ?_ (by first | omega | (simp <;> omega)) _ | refine Below.setCell ?_ (by first | omega | (simp <;> omega)) _ | refine Below.trans ?_ (Below.mono (by assumption) (by first | omega | (simp <;> omega)))))⟩
        rw [Hs.out]; rfl
      · have hj0 : j + 1 = n := by omega
        have hQ3 : Q = k / 24 / 2 ^ (n - 1) := by rw [hQ.out, ← hj0]; rfl
        have hQl : Q < 3 := by rw [hQ3]; exact hk3.out
        have HQ3 := Lib.hid hQ3; clear hQ3 hk3
        have hjj : (n : Int) - 1 - j = 0 := by omega
        have i0 : (0 : Int) < (n : Int) := by omega
        rcases (show Q = 0 ∨ Q = 1 ∨ Q = 2 by omega) with h | h | h
        · subst h
          have hx0 := ths_0
          go_wp2_with fail
          go_region
          go_wp2_with fail
          refine bodyPost_ret (v := .tuple #[.agg #[.string (⟨#[84]⟩ ++ s), .int .i64 ((k : Int) % 24), .int .i64 0], .bool true]) (by simp [results, Try.results23, go_sem, hr0, hr1, hr2]) rfl ⟨_, rfl, ?_, (by repeat (first | exact Below.refl _ _ | assumption | refine Below.drew ?_ | refine below_drewN ?_ _ | refine Below.alloc ?_ (by first | omega | (simp <;> omega)) _ | refine Below.setCell ?_ (by first | omega | (simp <;> omega)) _ | refine Below.trans ?_ (Below.mono (by assumption) (by first | omega | (simp <;> omega)))))⟩
          rw [ByteArray.data_append, Array.toList_append, Hs.out, syF, if_neg (by omega), ← HQ3.out, show n - 1 = j by omega]
          rfl
        · subst h
          have hx0 := ths_1
          go_wp2_with fail
          go_region
          go_wp2_with fail
          refine bodyPost_ret (v := .tuple #[.agg #[.string (⟨#[72]⟩ ++ s), .int .i64 ((k : Int) % 24), .int .i64 0], .bool true]) (by simp [results, Try.results23, go_sem, hr0, hr1, hr2]) rfl ⟨_, rfl, ?_, (by repeat (first | exact Below.refl _ _ | assumption | refine Below.drew ?_ | refine below_drewN ?_ _ | refine Below.alloc ?_ (by first | omega | (simp <;> omega)) _ | refine Below.setCell ?_ (by first | omega | (simp <;> omega)) _ | refine Below.trans ?_ (Below.mono (by assumption) (by first | omega | (simp <;> omega)))))⟩
          rw [ByteArray.data_append, Array.toList_append, Hs.out, syF, if_neg (by omega), ← HQ3.out, show n - 1 = j by omega]
          rfl
        · subst h
          have hx0 := ths_2
          go_wp2_with fail
          go_region
          go_wp2_with fail
          refine bodyPost_ret (v := .tuple #[.agg #[.string (⟨#[83]⟩ ++ s), .int .i64 ((k : Int) % 24), .int .i64 0], .bool true]) (by simp [results, Try.results23, go_sem, hr0, hr1, hr2]) rfl ⟨_, rfl, ?_, (by repeat (first | exact Below.refl _ _ | assumption | refine Below.drew ?_ | refine below_drewN ?_ _ | refine Below.alloc ?_ (by first | omega | (simp <;> omega)) _ | refine Below.setCell ?_ (by first | omega | (simp <;> omega)) _ | refine Below.trans ?_ (Below.mono (by assumption) (by first | omega | (simp <;> omega)))))⟩
          rw [ByteArray.data_append, Array.toList_append, Hs.out, syF, if_neg (by omega), ← HQ3.out, show n - 1 = j by omega]
          rfl

theorem sy_none {n k : Nat} (hc : (k : Int) ≤ countF n - 1) (hn : n ≤ 20) : k < 37748736 ∧ k / 24 / 2 ^ (n - 1) < 3 := by
  have hb := countF_bd n hn
  refine ⟨by omega, ?_⟩
  have h2 : 0 < 2 ^ (n - 1) := Nat.pow_pos (by decide)
  rw [Nat.div_div_eq_div_mul, Nat.div_lt_iff_lt_mul (by omega)]
  rcases Nat.eq_zero_or_pos n with h0 | h0
  · subst h0
    have : countF ((0 : Nat) : Int) = 24 := rfl
    omega
  · have e : countF n = ((72 * 2 ^ (n - 1) : Nat) : Int) := by
      unfold countF
      rw [if_neg (by omega), Int.toNat_natCast]
      simp
    rw [e] at hc
    have : k < 72 * 2 ^ (n - 1) := by omega
    omega
def formOK (n k : Int) : Prop := (0 ≤ n ∧ n ≤ 20) ∧ 0 ≤ k ∧ k ≤ countF n - 1
instance (n k : Int) : Decidable (formOK n k) := by unfold formOK; infer_instance
/-- What FormAt leaves: the form of the two numbers, or nothing. -/
def FormPost (n k : Int) (w : World) (e : Ending) (w' : World) : Prop :=
  ∃ (s : ByteArray) (c : Int), e = .returned (.tuple #[.agg #[.string s, .int .i64 c, .int .i64 0], .bool (decide (formOK n k))]) ∧ s.data.toList = (if formOK n k then syF n.toNat k.toNat else []) ∧ c = (if formOK n k then k % 24 else 0) ∧ Below w.heap.size w w'
theorem impl_FormAt_any (n k : Int) (w : World) : Calls Try.prog 23 #[.int .i64 n, .int .i64 k] w (FormPost n k w) := by
  by_cases hf : formOK n k
  · obtain ⟨⟨h1, h2⟩, h3, h4⟩ := hf
    obtain ⟨n, rfl⟩ := Int.eq_ofNat_of_zero_le h1
    obtain ⟨k, rfl⟩ := Int.eq_ofNat_of_zero_le h3
    obtain ⟨g1, g2⟩ := sy_none h4 (by omega)
    refine (impl_FormAt_t n k w (by omega) g1 g2 (by simp [inB]; omega) (decide_eq_true ⟨h3, h4⟩)).mono ?_
    rintro e w' ⟨s, rfl, hs, hb⟩
    have hf : formOK n k := ⟨⟨h1, h2⟩, h3, h4⟩
    refine ⟨s, (k : Int) % 24, ?_, ?_, ?_, hb⟩
    · rw [decide_eq_true hf]
    · rw [if_pos hf, Int.toNat_natCast, Int.toNat_natCast]; exact hs
    · rw [if_pos hf]
  · have hd : decide (formOK n k) = false := decide_eq_false hf
    have hpost : ∀ w', Below w.heap.size w w' → FormPost n k w (.returned (.tuple #[.agg #[.string ⟨#[]⟩, .int .i64 0, .int .i64 0], .bool false])) w' := fun w' hb => ⟨⟨#[]⟩, 0, by rw [hd], by rw [if_neg hf], by rw [if_neg hf], hb⟩
    have Hp := Lib.hid hpost; clear hpost hd
    cases hn : inB n 0 20
    · have Hn := Lib.hid hn; clear hn hf
      go_enter Try.func23, Try.ntmps23
      go_wp2_with fail
      refine (implCountForms_any _ _).mono ?_; rintro e w' ⟨rfl, rfl⟩
      rw [Hn.out]
      go_wp2_with fail
      exact bodyPost_ret (v := .tuple #[.agg #[.string ⟨#[]⟩, .int .i64 0, .int .i64 0], .bool false]) (by simp [results, Try.results23, go_sem]) rfl (Hp.out _ (by repeat (first | exact Below.refl _ _ | assumption | refine Below.drew ?_ | refine below_drewN ?_ _ | refine Below.alloc ?_ (by first | omega | (simp <;> omega)) _ | refine Below.setCell ?_ (by first | omega | (simp <;> omega)) _ | refine Below.trans ?_ (Below.mono (by assumption) (by first | omega | (simp <;> omega))))))
    · have hn2 : 0 ≤ n ∧ n ≤ 20 := by simpa [inB] using hn
      have hk : decide (0 ≤ k ∧ k ≤ countF n - 1) = false := decide_eq_false (fun h => hf ⟨hn2, h⟩)
      have hcb : 1 ≤ countF n ∧ countF n ≤ 37748736 := by
        obtain ⟨m, rfl⟩ := Int.eq_ofNat_of_zero_le hn2.1
        exact countF_bd m (by omega)
      obtain ⟨cb1, cb2⟩ := hcb
      have Hn := Lib.hid hn; have Hk := Lib.hid hk; clear hn hk hn2 hf
      go_enter Try.func23, Try.ntmps23
      go_wp2_with fail
      refine (implCountForms_any _ _).mono ?_; rintro e w' ⟨rfl, rfl⟩
      rw [if_pos Hn.out]
      go_wp2_with fail
      refine (within_p _ _ _ _).mono ?_; rintro e w' ⟨rfl, rfl⟩
      rw [Hk.out]
      go_wp2_with fail
      exact bodyPost_ret (v := .tuple #[.agg #[.string ⟨#[]⟩, .int .i64 0, .int .i64 0], .bool false]) (by simp [results, Try.results23, go_sem]) rfl (Hp.out _ (by repeat (first | exact Below.refl _ _ | assumption | refine Below.drew ?_ | refine below_drewN ?_ _ | refine Below.alloc ?_ (by first | omega | (simp <;> omega)) _ | refine Below.setCell ?_ (by first | omega | (simp <;> omega)) _ | refine Below.trans ?_ (Below.mono (by assumption) (by first | omega | (simp <;> omega))))))
end Go.Proofs.Ytekljechannabaa
