/- ParseDiagram: the program's readers. -/
import Derived.Test.YtliophgfgmjhiaaGreatDoorZ24Zy6
import Derived.Test.YtliophgfgmjhiaaGreatDoorZ25Zy5
import Derived.Test.YtliophgfgmjhiaaGreatDoorZ32Pf9
import Derived.Test.YtliophgfgmjhiaaGreatDoorZ39Zy2
import Derived.BigRegion
import Derived.BigGuardPart
namespace Go.Proofs.YtliophgfgmjhiaaGreatDoor
set_option linter.unusedSimpArgs false
set_option linter.unusedVariables false
set_option linter.unnecessarySimpa false
set_option maxRecDepth 200000
open Go.ChangeShapes Go.WideShapes Go.ChangeAt Go.RowKit

/-- What the program's reading of words asks of the world: a cell of the library. -/
def MaxZ (w : World) : Prop := ∃ m, w.cell? ⟨0, 0, none⟩ = some (.int .i64 m)
theorem MaxZ.call {w w' : World} (h : MaxZ w) (hb : Below w.heap.size w w') : MaxZ w' := by
  obtain ⟨m, h⟩ := h
  exact ⟨m, bel_zx hb h⟩
theorem impl_splitZ (c : UInt8) (s : ByteArray) (w : World) (hs : s.size ≤ 1048576) (hm : MaxZ w) :
    Calls Tryz.prog 10 #[.string s, .string ⟨#[c]⟩] w fun e w' => e = .returned (.slice (some ⟨w.heap.size, 0, none⟩) (wordsOf c s).length (wordsOf c s).length) ∧ w' = w.alloc (.cells ((wordsOf c s).map Value.string).toArray 9) := by
  obtain ⟨m, hm⟩ := hm
  refine (Tryz.strings_Split s ⟨#[c]⟩ m w (by omega) hm (by simp [ByteArray.size])).mono ?_
  rintro e w' ⟨rfl, rfl⟩
  have e1 := words_of (splitB_cut c s)
  have e2 := Lib.splitB_all ⟨#[c]⟩ (by simp [ByteArray.size]) 0 _ s rfl
  rw [e1] at e2 ⊢
  rw [e2]
  exact ⟨rfl, rfl⟩
/-- The numerals that the program reads back. -/
theorem ato_int : ∀ {r : Int}, -100 < r → r < 100 → Lib.atoiAll (intB r).data.toList = .ok r := by
  have key : ∀ k : Nat, k < 199 → Lib.atoiAll (intB ((k : Int) - 99)).data.toList = .ok ((k : Int) - 99) := by decide +kernel
  intro r h0 h1
  have := key (r + 99).toNat (by omega)
  rwa [show (((r + 99).toNat : Nat) : Int) - 99 = r from by omega] at this
theorem numB_int (k : Nat) : numB k = intB (k : Int) := by unfold intB; rw [if_neg (by omega)]; rfl
set_option maxHeartbeats 2000000 in
/-- A numeral is read as its number. -/
theorem impl_parseInt_int (r : Int) (w : World) (h0 : -100 < r) (h1 : r < 100) (hst : Strc w) :
    Calls Tryz.prog 11 #[.string (intB r)] w fun e w' => e = .returned (.tuple #[.int .i64 r, .bool true]) ∧ Below w.heap.size w w' := by
  have HS := Lib.hid hst
  have hs : (intB r).size ≤ 3 := int_size h0 h1
  have HA := Lib.hid (Tryz.strconv_Atoi_ok (intB r) (by omega) r (ato_int h0 h1) w)
  have he : ((intB r).toList == (intB r).toList) = true := beq_self_eq_true _
  have HI := Lib.hid (fun w9 h9 => impl_Itoa_any r w9 h0 h1 h9)
  obtain ⟨t, ht⟩ : ∃ t, t = intB r := ⟨_, rfl⟩
  rw [← ht] at HA HI he ⊢
  clear ht hst hs
  go_enter Tryz.func11, Tryz.ntmps11
  go_wp2_with fail
  refine HA.out.mono ?_; rintro e w1 ⟨rfl, hb1⟩
  have B1 := Lib.hid (show Below w.heap.size w w1 from by
    rcases hb1 with rfl | ⟨t, rfl⟩
    · exact Below.refl _ _
    · exact Go.Joins.below_bytesWorld _ _ _ _ (Nat.le_refl _))
  clear hb1
  go_wp2_with fail
  refine (HI.out _ (HS.out.call B1.out)).mono ?_; rintro e w2 ⟨rfl, hb2⟩
  have B3 := Lib.hid (below_step B1.out hb2)
  clear hb2
  go_wp2_with fail
  go_ret2
  exact ⟨rfl, B3.out⟩
/-- Whatever the text: a number, and where the text is a numeral, that one. -/
theorem impl_parseInt_z (s : ByteArray) (w : World) (hs : s.size ≤ 1048576) (hst : Strc w) :
    Calls Tryz.prog 11 #[.string s] w fun e w' => (∃ (n : Int) (q : Bool), e = .returned (.tuple #[.int .i64 n, .bool q]) ∧ ∀ r : Int, -100 < r → r < 100 → s = intB r → n = r ∧ q = true) ∧ Below w.heap.size w w' := by
  by_cases h : ∃ r : Int, (-100 < r ∧ r < 100) ∧ s = intB r
  · obtain ⟨r, ⟨h0, h1⟩, rfl⟩ := h
    refine (impl_parseInt_int r w h0 h1 hst).mono ?_
    rintro e w' ⟨rfl, hb⟩
    refine ⟨⟨r, true, rfl, fun r2 h2 h3 he => ⟨?_, rfl⟩⟩, hb⟩
    have a := ato_int h0 h1
    rw [he, ato_int h2 h3] at a
    injection a with a
    exact a.symm
  · refine (impl_parseInt_any s w hs hst).mono ?_
    rintro e w' ⟨q, rfl, hb⟩
    exact ⟨⟨_, q, rfl, fun r h0 h1 he => absurd ⟨r, ⟨h0, h1⟩, he⟩ h⟩, hb⟩
def idxZ (b : UInt8) : Int := Lib.indexByte [45, 105, 111, 122] b
theorem idxZ_B {a : Int} (h : 1 ≤ a ∧ a ≤ 3) : idxZ (kindB a) = a := by
  have : a = 1 ∨ a = 2 ∨ a = 3 := by omega
  rcases this with rfl | rfl | rfl <;> decide
/-- A node's text, read. -/
theorem rn_z {s : ByteArray} (hs : 0 < s.size) (hd : s ≠ ⟨#[45]⟩) {n : Int} {q : Bool} (hn : ∀ r : Int, -100 < r → r < 100 → s.extract 1 s.size = intB r → n = r ∧ q = true) : (RN s ⟨idxZ (s[0]'hs), n⟩) ∧ ∀ y, okN y → s = nodeT y → q = true := by
  have key : ∀ y, okN y → s = nodeT y → (⟨idxZ (s[0]'hs), n⟩ : E2) = y ∧ q = true := by
    intro y hy he
    by_cases h0 : y.a = 0
    · exact absurd (he.trans (node_0 h0)) hd
    · obtain ⟨h1, h2, h3⟩ := nodeT_first h0
      unfold okN at hy
      subst he
      have h4 := hn y.b (by omega) (by omega) (by rw [h3, numB_int, show ((y.b.toNat : Nat) : Int) = y.b from by omega])
      refine ⟨?_, h4.2⟩
      rw [h2, idxZ_B (by omega), h4.1]
  exact ⟨fun y hy he => (key y hy he).1, fun y hy he => (key y hy he).2⟩
set_option maxHeartbeats 4000000 in
theorem impl_parseNode_z (s : ByteArray) (w : World) (hs : s.size ≤ 1048576) (hst : Strc w) :
    Calls Tryz.prog 12 #[.string s] w fun e w' => (∃ (x : E2) (q : Bool), e = .returned (.tuple #[.agg #[.int .i64 x.a, .int .i64 x.b], .bool q]) ∧ RN s x ∧ ∀ y, okN y → s = nodeT y → q = true) ∧ Below w.heap.size w w' := by
  have HST := Lib.hid hst
  clear hst
  by_cases hd : s = ⟨#[45]⟩
  · subst hd
    go_enter Tryz.func12, Tryz.ntmps12
    go_wp2_with fail
    exact bodyPost_ret (v := .tuple #[.agg #[.int .i64 0, .int .i64 0], .bool true]) (by simp [results, Tryz.results12, go_sem]; done) rfl ⟨⟨⟨0, 0⟩, true, rfl, rn_dash, fun _ _ _ => rfl⟩, (by repeat (first | exact Below.refl _ _ | assumption | refine Below.drew ?_ | refine below_drewN ?_ _ | refine Below.alloc ?_ (by first | omega | (simp <;> omega)) _ | refine Below.setCell ?_ (by first | omega | (simp <;> omega)) _ | refine Below.trans ?_ (Below.mono (by assumption) (by first | omega | (simp <;> omega)))))⟩
  · have hdd : (s.toList == [45]) = false := by
      rw [Lib.toList_data, beq_eq_false_iff_ne]
      exact fun e => hd (bytes_inj e)
    by_cases hp : 0 < s.size
    · have hne := str_ne (show s.size ≠ 0 by omega)
      have HR := Lib.hid (fun (n : Int) (q : Bool) h => rn_z (n := n) (q := q) hp hd h)
      have HPI := Lib.hid (fun w9 h9 => impl_parseInt_z (s.extract 1 s.size) w9 (by rw [ByteArray.size_extract]; omega) h9)
      have i1 : (1 : Int) ≤ (s.size : Int) := by omega
      have HIB := Lib.hid (fun (w9 : World) => Tryz.strings_IndexByte ⟨#[45, 105, 111, 122]⟩ ((s[0]'hp).toNat : Int) w9)
      have hcv : (((s[0]'hp).toNat : Int)).toNat.toUInt8 = s[0]'hp := by simp
      rw [hcv] at HIB
      clear hd hcv
      go_enter Tryz.func12, Tryz.ntmps12
      go_wp2_with fail
      refine (HPI.out _ (HST.out.call (show Below w.heap.size w _ from (by repeat (first | exact Below.refl _ _ | assumption | refine Below.drew ?_ | refine below_drewN ?_ _ | refine Below.alloc ?_ (by first | omega | (simp <;> omega)) _ | refine Below.setCell ?_ (by first | omega | (simp <;> omega)) _ | refine Below.trans ?_ (Below.mono (by assumption) (by first | omega | (simp <;> omega)))))))).mono ?_; rintro e w2 ⟨⟨n, q, rfl, hn⟩, hb2⟩
      have HR2 := Lib.hid (HR.out n q hn)
      have c0 : w2.cell? ⟨w.heap.size, 0, none⟩ = some (.int .i64 0) := bel_zx hb2 (by repeat (first | (refine Eq.trans (World.cell?_alloc_at _ _ _ _ ?hh) ?_; (case hh => (simp; done)); rfl) | refine cell_alloc_keep _ ?_))
      have c1 : w2.cell? ⟨w.heap.size, 1, none⟩ = some (.int .i64 0) := bel_zx hb2 (by repeat (first | (refine Eq.trans (World.cell?_alloc_at _ _ _ _ ?hh) ?_; (case hh => (simp; done)); rfl) | refine cell_alloc_keep _ ?_))
      have f0 : w2.frozen? ⟨w.heap.size, 0, none⟩ = false := below_frz hb2 rfl (by simp) (by repeat (first | (refine World.frozen?_alloc_at _ _ _ _ ?hh; case hh => (simp; done)) | (refine frozen_alloc_lt _ ?hh ?_; case hh => first | omega | (simp <;> omega))))
      have f1 : w2.frozen? ⟨w.heap.size, 1, none⟩ = false := below_frz hb2 rfl (by simp) (by repeat (first | (refine World.frozen?_alloc_at _ _ _ _ ?hh; case hh => (simp; done)) | (refine frozen_alloc_lt _ ?hh ?_; case hh => first | omega | (simp <;> omega))))
      have B2 := Lib.hid (show Below w.heap.size w w2 from Below.trans (show Below w.heap.size w _ from (by repeat (first | exact Below.refl _ _ | assumption | refine Below.drew ?_ | refine below_drewN ?_ _ | refine Below.alloc ?_ (by first | omega | (simp <;> omega)) _ | refine Below.setCell ?_ (by first | omega | (simp <;> omega)) _ | refine Below.trans ?_ (Below.mono (by assumption) (by first | omega | (simp <;> omega)))))) (hb2.mono (by simp)))
      clear hb2 hn HR
      go_wp2_with fail
      refine (HIB.out _).mono ?_; rintro e w3 ⟨rfl, rfl⟩
      go_wp2_with fail
      exact bodyPost_ret (v := .tuple #[.agg #[.int .i64 (idxZ (s[0]'hp)), .int .i64 n], .bool q]) (by simp [results, Tryz.results12, go_sem, c0, c1, idxZ]; done) rfl ⟨⟨⟨idxZ (s[0]'hp), n⟩, q, rfl, HR2.out.1, HR2.out.2⟩, Below.setCell (Below.setCell B2.out (Nat.le_refl _) _) (Nat.le_refl _) _⟩
    · have h0 : s.size = 0 := by omega
      have HR := Lib.hid (rn_nil h0 ⟨0, 0⟩)
      have HQ := Lib.hid (fun y (_ : okN y) (he : s = nodeT y) => (show false = true from by
        exfalso
        rw [he] at h0
        unfold nodeT at h0
        split at h0
        · revert h0; decide
        · rw [app_size, one_size] at h0; omega))
      have hn : s.toList.isEmpty = true := by rw [size_zero h0, Lib.toList_data]; rfl
      clear hd hp
      go_enter Tryz.func12, Tryz.ntmps12
      go_wp2_with fail
      exact bodyPost_ret (v := .tuple #[.agg #[.int .i64 0, .int .i64 0], .bool false]) (by simp [results, Tryz.results12, go_sem]; done) rfl ⟨⟨⟨0, 0⟩, false, rfl, HR.out, HQ.out⟩, (by repeat (first | exact Below.refl _ _ | assumption | refine Below.drew ?_ | refine below_drewN ?_ _ | refine Below.alloc ?_ (by first | omega | (simp <;> omega)) _ | refine Below.setCell ?_ (by first | omega | (simp <;> omega)) _ | refine Below.trans ?_ (Below.mono (by assumption) (by first | omega | (simp <;> omega)))))⟩
theorem index_no {c : UInt8} : ∀ {l : List UInt8}, c ∉ l → Lib.index l [c] = -1
  | [], _ => rfl
  | b :: l, h => by
    have hb : b ≠ c := fun e => h (by simp [e])
    rw [index_skip hb, index_no (fun h9 => h (by simp [h9]))]
    rfl
theorem index_at {c : UInt8} : ∀ {a : List UInt8} (b : List UInt8), c ∉ a → Lib.index (a ++ c :: b) [c] = (a.length : Int)
  | [], b, _ => index_hit c b
  | x :: l, b, h => by
    have hb : x ≠ c := fun e => h (by simp [e])
    rw [List.cons_append, index_skip hb, index_at b (fun h9 => h (by simp [h9]))]
    rw [if_neg (by first | (simp; done) | (simp; omega))]
    simp
theorem cutZ_at {c : UInt8} {a : List UInt8} (b : List UInt8) (h : c ∉ a) : Lib.cut (a ++ c :: b) [c] = (a, b, true) := by
  unfold Lib.cut
  rw [index_at b h, if_pos (by omega)]
  simp
theorem cutZ_no {c : UInt8} {l : List UInt8} (h : c ∉ l) : Lib.cut l [c] = (l, [], false) := by
  unfold Lib.cut
  rw [index_no h, if_neg (by omega)]
def had9 (s : ByteArray) : Bool := (Lib.cut s.data.toList [61]).2.2
def hd9 (c : UInt8) (s : ByteArray) : ByteArray := ⟨(Lib.cut s.data.toList [c]).1.toArray⟩
def tl9 (c : UInt8) (s : ByteArray) : ByteArray := ⟨(Lib.cut s.data.toList [c]).2.1.toArray⟩
theorem wire_cut {y : EW} (hy : okW y) : had9 (wireT y) = y.h ∧ hd9 (markB y.h) (wireT y) = numB y.a.toNat ∧ tl9 (markB y.h) (wireT y) = numB y.b.toNat := by
  unfold okW at hy
  have e : (wireT y).data.toList = (numB y.a.toNat).data.toList ++ markB y.h :: (numB y.b.toNat).data.toList := by
    unfold wireT
    rw [app_list, app_list, one_list, List.append_assoc, List.singleton_append]
  have hm : isDig (markB y.h) = false := by cases y.h <;> rfl
  have hc := cutZ_at (numB y.b.toNat).data.toList (num_nodig (c := y.a.toNat) (by omega) hm)
  refine ⟨?_, ?_, ?_⟩
  · unfold had9
    rw [e]
    cases hh : y.h with
    | true =>
      rw [hh] at hc
      show (Lib.cut (_ ++ 61 :: _) [61]).2.2 = true
      have hc : Lib.cut ((numB y.a.toNat).data.toList ++ 61 :: (numB y.b.toNat).data.toList) [61] = _ := hc
      rw [hc]
    | false =>
      rw [cutZ_no]
      rw [List.mem_append, List.mem_cons]
      rintro (h | h | h)
      · exact num_nodig (by omega) (by decide) h
      · revert h; decide
      · exact num_nodig (by omega) (by decide) h
  · unfold hd9; rw [e, hc]
  · unfold tl9; rw [e, hc]
theorem cut_size (c : UInt8) (s : ByteArray) : (hd9 c s).size ≤ s.size ∧ (tl9 c s).size ≤ s.size := by
  have h : ∀ l : List UInt8, (Lib.cut l [c]).1.length ≤ l.length ∧ (Lib.cut l [c]).2.1.length ≤ l.length := fun l => by
    unfold Lib.cut
    split
    · refine ⟨?_, ?_⟩
      · simp only [List.length_take]; omega
      · simp only [List.length_drop]; omega
    · simp
  have h2 := h s.data.toList
  have e : s.data.toList.length = s.size := by rw [Array.length_toList]; rfl
  have e1 : (hd9 c s).size = (Lib.cut s.data.toList [c]).1.length := by unfold hd9; simp [ByteArray.size]
  have e2 : (tl9 c s).size = (Lib.cut s.data.toList [c]).2.1.length := by unfold tl9; simp [ByteArray.size]
  omega
/-- A wire's text, read. -/
theorem rw_z {s : ByteArray} {c : UInt8} {h : Bool} (hh : had9 s = h) (hc : c = markB h) {a b : Int} {p q : Bool}
    (ha : ∀ r : Int, -100 < r → r < 100 → hd9 c s = intB r → a = r ∧ p = true) (hb : ∀ r : Int, -100 < r → r < 100 → tl9 c s = intB r → b = r ∧ q = true) : RW s ⟨a, b, h⟩ ∧ ∀ y, okW y → s = wireT y → p = true ∧ q = true := by
  have key : ∀ y, okW y → s = wireT y → (⟨a, b, h⟩ : EW) = y ∧ p = true ∧ q = true := by
    intro y hy he
    obtain ⟨h1, h2, h3⟩ := wire_cut hy
    subst he
    rw [h1] at hh
    subst hh hc
    unfold okW at hy
    have ka := ha y.a (by omega) (by omega) (by rw [h2, numB_int, show ((y.a.toNat : Nat) : Int) = y.a from by omega])
    have kb := hb y.b (by omega) (by omega) (by rw [h3, numB_int, show ((y.b.toNat : Nat) : Int) = y.b from by omega])
    exact ⟨by rw [ka.1, kb.1], ka.2, kb.2⟩
  exact ⟨fun y hy he => (key y hy he).1, fun y hy he => (key y hy he).2⟩
theorem impl_cutZ (c : UInt8) (s : ByteArray) (w : World) (hs : s.size ≤ 1048576) (hm : MaxZ w) :
    Calls Tryz.prog 32 #[.string s, .string ⟨#[c]⟩] w fun e w' => e = .returned (.tuple #[.string (hd9 c s), .string (tl9 c s), .bool (Lib.cut s.data.toList [c]).2.2]) ∧ Below w.heap.size w w' := by
  obtain ⟨m, hm⟩ := hm
  refine (Tryz.strings_Cut s ⟨#[c]⟩ m w (by omega) hm).mono ?_
  rintro e w' ⟨rfl, k, rfl⟩
  exact ⟨rfl, below_drewN (Below.refl _ _) _⟩
set_option maxHeartbeats 4000000 in
theorem impl_parseWire_z (s : ByteArray) (w : World) (hs : s.size ≤ 1048576) (hst : Strc w) (hm : MaxZ w) :
    Calls Tryz.prog 13 #[.string s] w fun e w' => (∃ (x : EW) (q : Bool), e = .returned (.tuple #[.agg #[.int .i64 x.a, .int .i64 x.b, .bool x.h], .bool q]) ∧ RW s x ∧ ∀ y, okW y → s = wireT y → q = true) ∧ Below w.heap.size w w' := by
  have HST := Lib.hid hst; have HM := Lib.hid hm
  clear hst hm
  have hz61 := cut_size 61 s
  have hz45 := cut_size 45 s
  cases hh : had9 s with
  | true =>
    have HR := Lib.hid (fun (a b : Int) (p q : Bool) ha hb => rw_z (c := 61) (a := a) (b := b) (p := p) (q := q) hh rfl ha hb)
    have HC := Lib.hid (fun w9 h9 => impl_cutZ 61 s w9 hs h9)
    rw [show (Lib.cut s.data.toList [61]).2.2 = true from hh] at HC
    have HA := Lib.hid (fun w9 h9 => impl_parseInt_z (hd9 61 s) w9 (by omega) h9)
    have HB := Lib.hid (fun w9 h9 => impl_parseInt_z (tl9 61 s) w9 (by omega) h9)
    clear hh hz61 hz45
    obtain ⟨ta, hta⟩ : ∃ t, t = hd9 61 s := ⟨_, rfl⟩
    obtain ⟨tb, htb⟩ : ∃ t, t = tl9 61 s := ⟨_, rfl⟩
    rw [← hta] at HR HC HA; rw [← htb] at HR HC HB
    clear hta htb
    go_enter Tryz.func13, Tryz.ntmps13
    go_wp2_with fail
    refine (HC.out _ (HM.out.call (show Below w.heap.size w _ from (by repeat (first | exact Below.refl _ _ | assumption | refine Below.drew ?_ | refine below_drewN ?_ _ | refine Below.alloc ?_ (by first | omega | (simp <;> omega)) _ | refine Below.setCell ?_ (by first | omega | (simp <;> omega)) _ | refine Below.trans ?_ (Below.mono (by assumption) (by first | omega | (simp <;> omega)))))))).mono ?_; rintro e w2 ⟨rfl, hb2⟩
    have c0 : w2.cell? ⟨w.heap.size, 0, none⟩ = some (.int .i64 0) := bel_zx hb2 (by repeat (first | (refine Eq.trans (World.cell?_alloc_at _ _ _ _ ?hh) ?_; (case hh => (simp; done)); rfl) | refine cell_alloc_keep _ ?_))
    have c1 : w2.cell? ⟨w.heap.size, 1, none⟩ = some (.int .i64 0) := bel_zx hb2 (by repeat (first | (refine Eq.trans (World.cell?_alloc_at _ _ _ _ ?hh) ?_; (case hh => (simp; done)); rfl) | refine cell_alloc_keep _ ?_))
    have c2 : w2.cell? ⟨w.heap.size, 2, none⟩ = some (.bool false) := bel_zx hb2 (by repeat (first | (refine Eq.trans (World.cell?_alloc_at _ _ _ _ ?hh) ?_; (case hh => (simp; done)); rfl) | refine cell_alloc_keep _ ?_))
    have f0 : w2.frozen? ⟨w.heap.size, 0, none⟩ = false := below_frz hb2 rfl (by simp) (by repeat (first | (refine World.frozen?_alloc_at _ _ _ _ ?hh; case hh => (simp; done)) | (refine frozen_alloc_lt _ ?hh ?_; case hh => first | omega | (simp <;> omega))))
    have f1 : w2.frozen? ⟨w.heap.size, 1, none⟩ = false := below_frz hb2 rfl (by simp) (by repeat (first | (refine World.frozen?_alloc_at _ _ _ _ ?hh; case hh => (simp; done)) | (refine frozen_alloc_lt _ ?hh ?_; case hh => first | omega | (simp <;> omega))))
    have f2 : w2.frozen? ⟨w.heap.size, 2, none⟩ = false := below_frz hb2 rfl (by simp) (by repeat (first | (refine World.frozen?_alloc_at _ _ _ _ ?hh; case hh => (simp; done)) | (refine frozen_alloc_lt _ ?hh ?_; case hh => first | omega | (simp <;> omega))))
    have B2 := Lib.hid (show Below w.heap.size w w2 from Below.trans (show Below w.heap.size w _ from (by repeat (first | exact Below.refl _ _ | assumption | refine Below.drew ?_ | refine below_drewN ?_ _ | refine Below.alloc ?_ (by first | omega | (simp <;> omega)) _ | refine Below.setCell ?_ (by first | omega | (simp <;> omega)) _ | refine Below.trans ?_ (Below.mono (by assumption) (by first | omega | (simp <;> omega)))))) (hb2.mono (by simp)))
    have z2 : w.heap.size < w2.heap.size := World.block_lt_of_cell? _ _ c0
    clear hb2
    go_wp2_with fail
    refine (HA.out _ (HST.out.call B2.out)).mono ?_; rintro e w3 ⟨⟨a, p, rfl, ha⟩, hb3⟩
    replace c0 := bel_zx hb3 c0; replace c1 := bel_zx hb3 c1; replace c2 := bel_zx hb3 c2
    replace f0 := below_frz hb3 rfl z2 f0; replace f1 := below_frz hb3 rfl z2 f1; replace f2 := below_frz hb3 rfl z2 f2
    have B3 := Lib.hid (below_step B2.out hb3)
    have z3 : w.heap.size < w3.heap.size := World.block_lt_of_cell? _ _ c0
    clear hb3
    go_wp2_with fail
    refine (HB.out _ (HST.out.call B3.out)).mono ?_; rintro e w4 ⟨⟨b, q, rfl, hb⟩, hb4⟩
    replace c0 := bel_zx hb4 c0; replace c1 := bel_zx hb4 c1; replace c2 := bel_zx hb4 c2
    replace f0 := below_frz hb4 rfl z3 f0; replace f1 := below_frz hb4 rfl z3 f1; replace f2 := below_frz hb4 rfl z3 f2
    have B4 := Lib.hid (below_step B3.out hb4)
    have HRR := Lib.hid (HR.out a b p q ha hb)
    clear hb4 ha hb HR
    cases p with
    | true =>
      go_wp2_with fail
      exact bodyPost_ret (v := .tuple #[.agg #[.int .i64 a, .int .i64 b, .bool true], .bool q]) (by simp [results, Tryz.results13, go_sem, c0, c1, c2]; done) rfl ⟨⟨⟨a, b, true⟩, q, rfl, HRR.out.1, fun y hy he => (HRR.out.2 y hy he).2⟩, Below.setCell (Below.setCell (Below.setCell B4.out (Nat.le_refl _) _) (Nat.le_refl _) _) (Nat.le_refl _) _⟩
    | false =>
      go_wp2_with fail
      exact bodyPost_ret (v := .tuple #[.agg #[.int .i64 a, .int .i64 b, .bool true], .bool false]) (by simp [results, Tryz.results13, go_sem, c0, c1, c2]; done) rfl ⟨⟨⟨a, b, true⟩, false, rfl, HRR.out.1, fun y hy he => (HRR.out.2 y hy he).1⟩, Below.setCell (Below.setCell (Below.setCell B4.out (Nat.le_refl _) _) (Nat.le_refl _) _) (Nat.le_refl _) _⟩
  | false =>
    have HR := Lib.hid (fun (a b : Int) (p q : Bool) ha hb => rw_z (c := 45) (a := a) (b := b) (p := p) (q := q) hh rfl ha hb)
    have HC0 := Lib.hid (fun w9 h9 => impl_cutZ 61 s w9 hs h9)
    rw [show (Lib.cut s.data.toList [61]).2.2 = false from hh] at HC0
    have HC := Lib.hid (fun w9 h9 => impl_cutZ 45 s w9 hs h9)
    have HA := Lib.hid (fun w9 h9 => impl_parseInt_z (hd9 45 s) w9 (by omega) h9)
    have HB := Lib.hid (fun w9 h9 => impl_parseInt_z (tl9 45 s) w9 (by omega) h9)
    clear hh hz61 hz45
    obtain ⟨ta, hta⟩ : ∃ t, t = hd9 45 s := ⟨_, rfl⟩
    obtain ⟨tb, htb⟩ : ∃ t, t = tl9 45 s := ⟨_, rfl⟩
    rw [← hta] at HR HC HA; rw [← htb] at HR HC HB
    clear hta htb
    go_enter Tryz.func13, Tryz.ntmps13
    go_wp2_with fail
    refine (HC0.out _ (HM.out.call (show Below w.heap.size w _ from (by repeat (first | exact Below.refl _ _ | assumption | refine Below.drew ?_ | refine below_drewN ?_ _ | refine Below.alloc ?_ (by first | omega | (simp <;> omega)) _ | refine Below.setCell ?_ (by first | omega | (simp <;> omega)) _ | refine Below.trans ?_ (Below.mono (by assumption) (by first | omega | (simp <;> omega)))))))).mono ?_; rintro e w1 ⟨rfl, hb1⟩
    have c0 : w1.cell? ⟨w.heap.size, 0, none⟩ = some (.int .i64 0) := bel_zx hb1 (by repeat (first | (refine Eq.trans (World.cell?_alloc_at _ _ _ _ ?hh) ?_; (case hh => (simp; done)); rfl) | refine cell_alloc_keep _ ?_))
    have c1 : w1.cell? ⟨w.heap.size, 1, none⟩ = some (.int .i64 0) := bel_zx hb1 (by repeat (first | (refine Eq.trans (World.cell?_alloc_at _ _ _ _ ?hh) ?_; (case hh => (simp; done)); rfl) | refine cell_alloc_keep _ ?_))
    have c2 : w1.cell? ⟨w.heap.size, 2, none⟩ = some (.bool false) := bel_zx hb1 (by repeat (first | (refine Eq.trans (World.cell?_alloc_at _ _ _ _ ?hh) ?_; (case hh => (simp; done)); rfl) | refine cell_alloc_keep _ ?_))
    have f0 : w1.frozen? ⟨w.heap.size, 0, none⟩ = false := below_frz hb1 rfl (by simp) (by repeat (first | (refine World.frozen?_alloc_at _ _ _ _ ?hh; case hh => (simp; done)) | (refine frozen_alloc_lt _ ?hh ?_; case hh => first | omega | (simp <;> omega))))
    have f1 : w1.frozen? ⟨w.heap.size, 1, none⟩ = false := below_frz hb1 rfl (by simp) (by repeat (first | (refine World.frozen?_alloc_at _ _ _ _ ?hh; case hh => (simp; done)) | (refine frozen_alloc_lt _ ?hh ?_; case hh => first | omega | (simp <;> omega))))
    have f2 : w1.frozen? ⟨w.heap.size, 2, none⟩ = false := below_frz hb1 rfl (by simp) (by repeat (first | (refine World.frozen?_alloc_at _ _ _ _ ?hh; case hh => (simp; done)) | (refine frozen_alloc_lt _ ?hh ?_; case hh => first | omega | (simp <;> omega))))
    have B1 := Lib.hid (show Below w.heap.size w w1 from Below.trans (show Below w.heap.size w _ from (by repeat (first | exact Below.refl _ _ | assumption | refine Below.drew ?_ | refine below_drewN ?_ _ | refine Below.alloc ?_ (by first | omega | (simp <;> omega)) _ | refine Below.setCell ?_ (by first | omega | (simp <;> omega)) _ | refine Below.trans ?_ (Below.mono (by assumption) (by first | omega | (simp <;> omega)))))) (hb1.mono (by simp)))
    have z1 : w.heap.size < w1.heap.size := World.block_lt_of_cell? _ _ c0
    clear hb1
    go_wp2_with fail
    refine (HC.out _ (HM.out.call B1.out)).mono ?_; rintro e w2 ⟨rfl, hb2⟩
    replace c0 := bel_zx hb2 c0; replace c1 := bel_zx hb2 c1; replace c2 := bel_zx hb2 c2
    replace f0 := below_frz hb2 rfl z1 f0; replace f1 := below_frz hb2 rfl z1 f1; replace f2 := below_frz hb2 rfl z1 f2
    have B2 := Lib.hid (below_step B1.out hb2)
    have z2 : w.heap.size < w2.heap.size := World.block_lt_of_cell? _ _ c0
    clear hb2
    go_wp2_with fail
    refine (HA.out _ (HST.out.call B2.out)).mono ?_; rintro e w3 ⟨⟨a, p, rfl, ha⟩, hb3⟩
    replace c0 := bel_zx hb3 c0; replace c1 := bel_zx hb3 c1; replace c2 := bel_zx hb3 c2
    replace f0 := below_frz hb3 rfl z2 f0; replace f1 := below_frz hb3 rfl z2 f1; replace f2 := below_frz hb3 rfl z2 f2
    have B3 := Lib.hid (below_step B2.out hb3)
    have z3 : w.heap.size < w3.heap.size := World.block_lt_of_cell? _ _ c0
    clear hb3
    go_wp2_with fail
    refine (HB.out _ (HST.out.call B3.out)).mono ?_; rintro e w4 ⟨⟨b, q, rfl, hb⟩, hb4⟩
    replace c0 := bel_zx hb4 c0; replace c1 := bel_zx hb4 c1; replace c2 := bel_zx hb4 c2
    replace f0 := below_frz hb4 rfl z3 f0; replace f1 := below_frz hb4 rfl z3 f1; replace f2 := below_frz hb4 rfl z3 f2
    have B4 := Lib.hid (below_step B3.out hb4)
    have HRR := Lib.hid (HR.out a b p q ha hb)
    clear hb4 ha hb HR
    cases p with
    | true =>
      go_wp2_with fail
      exact bodyPost_ret (v := .tuple #[.agg #[.int .i64 a, .int .i64 b, .bool false], .bool q]) (by simp [results, Tryz.results13, go_sem, c0, c1, c2]; done) rfl ⟨⟨⟨a, b, false⟩, q, rfl, HRR.out.1, fun y hy he => (HRR.out.2 y hy he).2⟩, Below.setCell (Below.setCell (Below.setCell B4.out (Nat.le_refl _) _) (Nat.le_refl _) _) (Nat.le_refl _) _⟩
    | false =>
      go_wp2_with fail
      exact bodyPost_ret (v := .tuple #[.agg #[.int .i64 a, .int .i64 b, .bool false], .bool false]) (by simp [results, Tryz.results13, go_sem, c0, c1, c2]; done) rfl ⟨⟨⟨a, b, false⟩, false, rfl, HRR.out.1, fun y hy he => (HRR.out.2 y hy he).1⟩, Below.setCell (Below.setCell (Below.setCell B4.out (Nat.le_refl _) _) (Nat.le_refl _) _) (Nat.le_refl _) _⟩
end Go.Proofs.YtliophgfgmjhiaaGreatDoor
