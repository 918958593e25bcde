/- The reading of a log's text, plain: two readers of numerals that read numerals alike find the same logs. -/
import Derived.Test.YtliophgfgmjhiaaGreatDoorZ18Lq0
import Derived.Test.YtliophgfgmjhiaaGreatDoorZ19Pf7
import Derived.Test.YtliophgfgmjhiaaGreatDoorZ20Lg4
namespace Go.Proofs.YtliophgfgmjhiaaGreatDoor
set_option linter.unusedSimpArgs false
set_option linter.unusedVariables false
set_option linter.unnecessarySimpa false
set_option maxRecDepth 200000
open Go.ChangeShapes Go.WideShapes Go.ChangeAt Go.RowKit

theorem cut_join {c : UInt8} : ∀ {L : List (List UInt8)}, L ≠ [] → (∀ w ∈ L, c ∉ w) → cutW c (Lib.join L [c]) = L
  | [], h, _ => absurd rfl h
  | [x], _, h => by rw [Lib.join_one]; exact cut_none (h x (by simp))
  | x :: y :: r, _, h => by
    have e : Lib.join (x :: y :: r) [c] = x ++ c :: Lib.join (y :: r) [c] := by
      rw [Lib.join_cons, Lib.join_cons]
      simp [Lib.joinTail]
    rw [e, cut_app _ (h x (by simp)), cut_join (by simp) (fun w hw => h w (by simp at hw ⊢; exact .inr hw))]
theorem num_no59 {c : Nat} (h : c < 100) : (59 : UInt8) ∉ (numB c).data.toList := by
  have key : ∀ r : Nat, r < 10 → ¬ (59 : UInt8) = UInt8.ofNat (48 + r) := by decide
  by_cases h1 : c < 10
  · have k1 := key c h1
    rw [num_small c h1]
    generalize UInt8.ofNat (48 + c) = x at *
    simpa using k1
  · have k1 := key (c / 10) (by omega)
    have k2 := key (c % 10) (by omega)
    rw [num_big c (by omega), num_small (c / 10) (by omega)]
    generalize UInt8.ofNat (48 + c / 10) = x at *
    generalize UInt8.ofNat (48 + c % 10) = y at *
    simp
    exact ⟨k1, k2⟩
theorem two_list (a b : ByteArray) : (a ++ ⟨#[32]⟩ ++ b).data.toList = a.data.toList ++ 32 :: b.data.toList := by simp [List.append_assoc]
theorem three_list (a b d : ByteArray) : (a ++ ⟨#[32]⟩ ++ b ++ (⟨#[32]⟩ ++ d)).data.toList = a.data.toList ++ 32 :: (b.data.toList ++ 32 :: d.data.toList) := by simp [List.append_assoc]
theorem step_no59 {x : E3} (h : okStep x = true) : (59 : UInt8) ∉ (stepW x).data.toList := by
  obtain ⟨_, hb, hc, _⟩ := ok_parts h
  have w1 := word_no 59 (.inr rfl) x.a.toNat
  have n1 := num_no59 (c := x.b.toNat) (by omega)
  have n2 := num_no59 (c := x.c.toNat) (by omega)
  unfold stepW headT
  split
  · rw [three_list]
    simp [w1, n1, n2]
  · rw [two_list]
    simp [w1, n1]
theorem back (l : List UInt8) : (⟨l.toArray⟩ : ByteArray).data.toList = l := by simp
theorem ba_back (b : ByteArray) : (⟨b.data.toList.toArray⟩ : ByteArray) = b := bytes_inj (by simp)
/-- What reads numerals, reads a step's words. -/
theorem read_step {g : ByteArray → Int} (hg : ∀ k : Nat, k < 100 → g (numB k) = (k : Int)) {x : E3} (h : okStep x = true) : readE g (wordsOf 32 (stepW x)) = x := by
  obtain ⟨ha, hb, hc, h2⟩ := ok_parts h
  have w1 := word_no 32 (.inl rfl) x.a.toNat
  have n1 := num_no32 (c := x.b.toNat) (by omega)
  have n2 := num_no32 (c := x.c.toNat) (by omega)
  have e1 := hg x.b.toNat (by omega)
  have e2 := hg x.c.toNat (by omega)
  have e3 := rule_word x.a.toNat (by omega) (by omega)
  unfold stepW headT
  split
  · next ht =>
    have hw : wordsOf 32 (wordOf x.a.toNat ++ ⟨#[32]⟩ ++ numB x.b.toNat ++ (⟨#[32]⟩ ++ numB x.c.toNat)) = [wordOf x.a.toNat, numB x.b.toNat, numB x.c.toNat] := by
      unfold wordsOf
      rw [three_list, cut_three w1 n1 n2]
      simp only [List.map_cons, List.map_nil, ba_back]
    rw [hw]
    unfold readE fldE
    simp only [List.getD_cons_zero, List.getD_cons_succ, List.length_cons, List.length_nil]
    rw [e3, e1, e2]
    obtain ⟨a, b, c⟩ := x
    simp at *
    exact ⟨by omega, by omega, by omega⟩
  · next ht =>
    have hw : wordsOf 32 (wordOf x.a.toNat ++ ⟨#[32]⟩ ++ numB x.b.toNat) = [wordOf x.a.toNat, numB x.b.toNat] := by
      unfold wordsOf
      rw [two_list, cut_app _ w1, cut_none n1]
      simp only [List.map_cons, List.map_nil, ba_back]
    have hc0 : x.c = 0 := by
      rcases h2 with h2 | h2
      · exact absurd h2 ht
      · exact h2
    rw [hw]
    unfold readE fldE
    simp only [List.getD_cons_zero, List.getD_cons_succ, List.length_cons, List.length_nil]
    rw [e3, e1]
    obtain ⟨a, b, c⟩ := x
    simp at *
    exact ⟨by omega, by omega, by omega⟩
theorem log_list {xs : List E3} (h : xs.length ≠ 0) : (logText xs).data.toList = Lib.join ((xs.map stepW).map (·.data.toList)) [59] := by
  unfold logText
  rw [if_neg h]
  have := join_text xs xs.length (Nat.le_refl _)
  rw [List.take_length] at this
  exact this.symm
theorem good_parts {f : ByteArray → Int} {s : ByteArray} (h : goodL f s = true) : logB (readL f s) = true ∧ logText (readL f s) = s := by
  unfold goodL at h
  rw [Bool.and_eq_true] at h
  exact ⟨h.1, of_decide_eq_true h.2⟩
theorem good_words {f : ByteArray → Int} {s : ByteArray} (h : goodL f s = true) : wordsOf 59 s = (readL f s).map stepW := by
  obtain ⟨hb, ht⟩ := good_parts h
  have hl : (readL f s).length ≠ 0 := by
    have := wordsOf_pos 59 s
    rw [readL_len]; omega
  have hok := (logB_parts hb).1
  apply words_inj
  rw [wordsOf_data]
  have e := log_list hl
  rw [ht] at e
  rw [e]
  refine cut_join (fun h9 => hl ?_) (fun w hw => ?_)
  · have := congrArg List.length h9
    simpa using this
  · obtain ⟨b, hb1, rfl⟩ := List.mem_map.1 hw
    obtain ⟨x, hx, rfl⟩ := List.mem_map.1 hb1
    exact step_no59 (List.all_eq_true.1 hok x hx)
theorem good_read {f g : ByteArray → Int} (hg : ∀ k : Nat, k < 100 → g (numB k) = (k : Int)) {s : ByteArray} (h : goodL f s = true) : readL g s = readL f s := by
  have hok := (logB_parts (good_parts h).1).1
  have hw := good_words h
  unfold readL at hok hw ⊢
  refine List.map_congr_left fun t ht => ?_
  have hi : t = stepW (readE f (wordsOf 32 t)) := by
    obtain ⟨i, hi, he⟩ := List.getElem_of_mem ht
    have h2 : (wordsOf 59 s)[i]? = (((wordsOf 59 s).map fun t => readE f (wordsOf 32 t)).map stepW)[i]? := congrArg (·[i]?) hw
    rw [List.map_map, List.getElem?_map, List.getElem?_eq_getElem hi, he] at h2
    simpa using h2
  have hx := List.all_eq_true.1 hok _ (List.mem_map.2 ⟨t, ht, rfl⟩)
  have hr := read_step hg hx
  rw [← hi] at hr
  exact hr
theorem good_alike {f g : ByteArray → Int} (hf : ∀ k : Nat, k < 100 → f (numB k) = (k : Int)) (hg : ∀ k : Nat, k < 100 → g (numB k) = (k : Int)) (s : ByteArray) : goodL f s = goodL g s := by
  cases h1 : goodL f s with
  | true =>
    have e := good_read hg h1
    unfold goodL at h1 ⊢
    rw [e, h1]
  | false =>
    cases h2 : goodL g s with
    | false => rfl
    | true =>
      have e := good_read hf h2
      unfold goodL at h1 h2
      rw [e, h2] at h1
      cases h1
theorem log_alike {f g : ByteArray → Int} (hf : ∀ k : Nat, k < 100 → f (numB k) = (k : Int)) (hg : ∀ k : Nat, k < 100 → g (numB k) = (k : Int)) (s : ByteArray) : logQ f s = logQ g s ∧ logR f s = logR g s := by
  have h := good_alike hf hg s
  unfold logQ logR
  rw [h]
  refine ⟨rfl, ?_⟩
  split
  · rfl
  · split
    · next h2 => rw [good_read hf h2]
    · rfl
theorem logR_len (f : ByteArray → Int) (s : ByteArray) : (logR f s).length ≤ 60 := by
  unfold logR
  split
  · simp
  · split
    · next h => exact (logB_parts (good_parts h).1).2
    · simp
end Go.Proofs.YtliophgfgmjhiaaGreatDoor
