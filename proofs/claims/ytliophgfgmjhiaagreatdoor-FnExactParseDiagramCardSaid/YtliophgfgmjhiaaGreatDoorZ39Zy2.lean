/- The text of a diagram: the program. -/
import Derived.Test.YtliophgfgmjhiaaGreatDoorZ37Zx8
import Derived.Test.YtliophgfgmjhiaaGreatDoorZ23Zx9
import Derived.Test.YtliophgfgmjhiaaGreatDoorZ38Lg5
import Derived.Test.YtliophgfgmjhiaaGreatDoorZ32Pf9
import Derived.Test.YtliophgfgmjhiaaGreatDoorZ04Brk
import Derived.BigRegion
import Derived.BigQuiet
import Derived.Deep.DeepCutAuto
namespace Go.Proofs.YtliophgfgmjhiaaGreatDoor
set_option linter.unusedSimpArgs false
set_option linter.unusedVariables false
set_option linter.unnecessarySimpa false
set_option maxRecDepth 200000
open Go.ChangeShapes Go.WideShapes Go.ChangeAt Go.RowKit

theorem itoa_intB (n : Int) : (⟨(Lib.itoa n).toArray⟩ : ByteArray) = intB n := by
  unfold Lib.itoa intB numB
  split
  · next h =>
    apply bytes_inj
    rw [app_list, one_list]
    have : (-n).toNat = n.natAbs := by omega
    rw [this]
    simp
  · rfl
theorem impl_Itoa_any (n : Int) (w : World) (h0 : -100 < n) (h1 : n < 100) (hst : Strc w) : Calls Tryz.prog 30 #[.int .i64 n] w fun e w' => e = .returned (.string (intB n)) ∧ Below w.heap.size w w' := by
  refine (Tryz.strconv_Itoa n (by omega) (by omega) w hst.tab).mono ?_; rintro e w2 ⟨rfl, k, os, hw2⟩
  refine ⟨by rw [itoa_intB], ?_⟩
  subst hw2
  refine ⟨rfl, rfl, rfl, ?_, fun i hi => ?_⟩
  · simp [Go.Sort.grow, World.drewN]
  · simp [Go.Sort.grow, World.drewN, Array.getElem?_append, hi]
theorem int_atz {w : World} {v : Value} {zs : List Int} (h : RdI w v zs) : ∃ A c, v = .slice A zs.length c ∧ Hid (∀ k, k < zs.length → ∃ b off, A = some ⟨b, off, none⟩ ∧ b < w.heap.size ∧ w.cell? ⟨b, off + k, none⟩ = some (.int .i64 (zs.getD k 0))) := by
  rcases h.cases with ⟨⟨A, c, rfl⟩, rfl⟩ | ⟨b, off, cap, rfl, hb, hl, hm, hc⟩
  · exact ⟨A, c, rfl, show ∀ _, _ from fun k hk => by simp at hk⟩
  · exact ⟨_, cap, rfl, show ∀ _, _ from fun k hk => ⟨b, off, rfl, hb, hc k hk⟩⟩
theorem join_own2 {w : World} {B n : Nat} {v : Value} {ws : List ByteArray} {c : UInt8} (h : w.ownsRow B 9 1 v n (ws.map Value.string)) (hn : n = ws.length) (h0 : n ≠ 0) (h6 : n ≤ 10000000) (hs : (joinL ws c).size ≤ 1000000000) :
    Calls Tryz.prog 36 #[v, .string ⟨#[c]⟩] w fun e w' => e = .returned (.string (joinL ws c)) ∧ Below w.heap.size w w' := by
  obtain ⟨g, cap, rfl⟩ := Go.Joins.ownsRow_form h (by omega)
  subst hn
  have hcap : ws.length ≤ cap := by
    rcases h.2 with ⟨e, _⟩ | ⟨g2, cap2, cur, e, _, _, h3, _⟩
    · cases e
    · injection e with e1 e2 e3; omega
  have hlen : (Lib.join (ws.map (·.data.toList)) (ByteArray.mk #[c]).data.toList).length ≤ 140737488355328 := by
    show (Lib.join (ws.map (·.data.toList)) [c]).length ≤ _
    rw [← joinL_list, Array.length_toList]
    have : (joinL ws c).data.size = (joinL ws c).size := rfl
    omega
  refine (Tryz.strings_Join g 0 cap ws ⟨#[c]⟩ w (fun j x hx => ?_) (World.ownsRow.lt h g rfl).2 (by omega) hcap hlen).mono ?_
  · have := World.ownsRow.cells h (g := g) rfl j (.string x) (by rw [List.getElem?_map, hx]; rfl)
    rwa [Addr.add_lit] at this
  · rintro e w2 ⟨rfl, hb⟩
    refine ⟨ret_str ?_, hb⟩
    apply ByteArray.ext
    show (Lib.join (ws.map (·.data.toList)) [c]).toArray = (joinL ws c).data
    rfl
theorem joinL_size {ws : List ByteArray} {m : Nat} (h : ∀ t ∈ ws, t.size ≤ m) : (joinL ws 44).size ≤ ws.length * (m + 1) := by
  have := acc_size (base := ⟨#[]⟩) h ws.length (Nat.le_refl _)
  rw [acc_all (Nat.le_refl _), app_size] at this
  have e : (ByteArray.mk #[]).size = 0 := rfl
  omega
theorem take_str {ts : List ByteArray} {k : Nat} {t : ByteArray} (hk : k < ts.length) (ht : t = ts.getD k ⟨#[]⟩) : (ts.take (k + 1)).map Value.string = (ts.take k).map Value.string ++ [Value.string t] := by
  subst ht
  rw [List.take_succ_eq_append_getElem hk, List.map_append, List.map_singleton]
  simp [List.getD, hk]
theorem joinL_three (a b d : ByteArray) : joinL [a, b, d] 59 = a ++ ⟨#[59]⟩ ++ b ++ ⟨#[59]⟩ ++ d := by
  apply bytes_inj
  rw [joinL_list]
  simp [Lib.join_cons, Lib.joinTail, List.append_assoc]
set_option maxHeartbeats 8000000 in
theorem impl_joinInts_any (c : UInt8) (v : Value) (zs : List Int) (w : World) (h : RdI w v zs) (hz : ∀ k, k < zs.length → -100 < zs.getD k 0 ∧ zs.getD k 0 < 100) (h0 : zs.length ≠ 0) (hl : zs.length ≤ 1000) (hst : Strc w) (hjs : (joinL (zs.map intB) c).size ≤ 100000) :
    Calls Tryz.prog 35 #[v, .string ⟨#[c]⟩] w fun e w' => e = .returned (.string (joinL (zs.map intB) c)) ∧ Below w.heap.size w w' := by
  obtain ⟨i0, hi, hz0, hz1, hz2⟩ := info_parts info_str
  obtain ⟨A, cap, rfl, HC⟩ := int_atz h
  have HZ := Lib.hid hz
  have HST := Lib.hid hst
  clear h hz hst
  go_enter Tryz.func35, Tryz.ntmps35
  go_wp2_with fail
  have O0 := Lib.hid (show (w.alloc (.cells #[] 9)).ownsRow w.heap.size 9 1 (.slice (some ⟨w.heap.size, 0, none⟩) 0 0) 0 [] from own_lit0 (f := wcs) (sz := 1) w w.heap.size 9 w.heap.size rfl (Nat.le_refl _))
  go_loopw [5, 11] (fun so si wr => ∃ (k : Nat) (u : Value), u = so ∧ k ≤ zs.length ∧ si = .int .i64 k ∧ Hid (wr.ownsRow w.heap.size 9 1 u k (((zs.map intB).take k).map Value.string)) ∧ Hid (Below w.heap.size w wr) ∧ w.heap.size ≤ wr.heap.size) (fun _ si _ => zs.length - (intOf si).toNat)
  case atStart => exact ⟨0, _, rfl, Nat.zero_le _, rfl, O0, (show Below _ _ _ from (by repeat (first | exact Below.refl _ _ | assumption | refine Below.drew ?_ | refine below_drewN ?_ _ | refine Below.alloc ?_ (by first | omega | (simp <;> omega)) _ | refine Below.setCell ?_ (by first | omega | (simp <;> omega)) _ | refine Below.trans ?_ (Below.mono (by assumption) (by first | omega | (simp <;> omega)))))), by simp⟩
  case round =>
    clear O0
    obtain ⟨k, u, rfl, hk, rfl, hO, hB, hsz⟩ := hrel
    obtain ⟨aU, cU, rfl⟩ : ∃ a c, u = .slice a k c := own_fm hO.out
    by_cases hlt : k < zs.length
    · have i1 : (k : Int) < (zs.length : Int) := by omega
      obtain ⟨b, off, rfl, hb, q0⟩ := HC.out k hlt
      replace q0 := (hB.out.cell hb).trans q0
      obtain ⟨r0, r1⟩ := HZ.out k hlt
      have HL4 := Lib.hid (take_str (ts := zs.map intB) (k := k) (t := intB (zs.getD k 0)) (by rw [List.length_map]; exact hlt) (by simp [List.getD, hlt]))
      obtain ⟨z, hz⟩ : ∃ z, z = zs.getD k 0 := ⟨_, rfl⟩
      rw [← hz] at q0 r0 r1 HL4
      clear hz
      go_wp2_with fail
      refine (impl_Itoa_any z _ r0 r1 (HST.out.call hB.out)).mono ?_; rintro e w2 ⟨rfl, hb2⟩
      have O2 := Lib.hid (own_below hO.out hb2 rfl)
      have B2 := Lib.hid (below_step hB.out hb2)
      have z2 := Nat.le_trans hsz hb2.size
      clear hb2 hO hB q0
      obtain ⟨t, ht⟩ : ∃ t, t = intB z := ⟨_, rfl⟩
      rw [← ht] at HL4 ⊢
      clear ht
      have OX := Lib.hid (World.ownsRow.alloc O2.out (.cells #[.string t] 9))
      have hbX := Lib.hid (Below.alloc B2.out z2 (.cells #[.string t] 9))
      have g1 : k + 1 ≤ maxLen := by unfold maxLen; omega
      have g2 : (k + 1) * 16 ≤ 140737488355328 := by omega
      have g3 : w.heap.size ≤ (w2.alloc (.cells #[.string t] 9)).heap.size := by simp; omega
      have g4 : (Value.string ⟨#[]⟩).cells.size = 1 := rfl
      have g5 := str_reads w2 t
      have g6 := str_one t
      go_wp2_with (at_builtin; refine wpList_append_any _ rfl (.tmp 15) (.tmp 18) 31 rfl w.heap.size 9 i0 (.string ⟨#[]⟩) 1 16 Tryz.underlying31 hi hz0 hz1 hz2 g4 (by decide) (.slice aU k cU) k _ (by rfl) OX.out (w2.heap.size + 1) (some ⟨w2.heap.size, 0, none⟩) 1 1 [.string t] (by rfl) g5 g6 g1 g2 g3 ?_; intro v3 w4 hown3 hg3 hat3; have S4 := Lib.hid (show w4.ownsRow w.heap.size 9 1 v3 (k + 1) (((zs.map intB).take (k + 1)).map Value.string) from (by rw [HL4.out]; exact hown3)); have B4 := Lib.hid (grown_below hbX.out OX.out hg3 (by omega) g3); have z4 := hg3.size; (simp at z4); clear hown3 hg3 hat3)
      go_roundw
      case rel => exact ⟨k + 1, v3, rfl, by omega, by go_num, S4, B4, by omega⟩
      case measure => simp [intOf]; omega
    · have i1 : ¬ (k : Int) < (zs.length : Int) := by omega
      have O2 := hO.out
      rw [List.take_of_length_le (by rw [List.length_map]; omega)] at O2
      have HJ := Lib.hid (join_own2 (c := c) O2 (by rw [List.length_map]; omega) (by omega) (by omega) (by omega))
      have B := hB.out
      clear O2 hO
      go_wp2_with fail
      refine HJ.out.mono ?_; rintro e w5 ⟨rfl, hb5⟩
      go_wp2_with fail
      go_ret
      exact ⟨rfl, below_step B hb5⟩
end Go.Proofs.YtliophgfgmjhiaaGreatDoor
