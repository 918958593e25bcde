/- The reference's cutter of texts: l1Split. -/
import Derived.Test.YtliophgfgmjhiaaGreatDoorZ15Pf2
import Derived.BigRegion
namespace Go.Proofs.YtliophgfgmjhiaaGreatDoor
set_option linter.unusedSimpArgs false
set_option linter.unusedVariables false
set_option linter.unnecessarySimpa false
set_option maxRecDepth 200000
open Go.ChangeShapes Go.WideShapes Go.ChangeAt Go.RowKit

theorem cut_snoc_c (c : UInt8) : ∀ a : List UInt8, cutW c (a ++ [c]) = cutW c a ++ [[]]
  | [] => by simp [cutW]
  | b :: l => by
    rw [List.cons_append, cut_cons, cut_cons, cut_snoc_c c l]
    split
    · rfl
    · cases h : cutW c l with
      | nil => exact absurd h (cut_ne c l)
      | cons w ws => rfl
theorem cut_snoc_b {c b : UInt8} (h : b ≠ c) : ∀ (a : List UInt8) (D : List (List UInt8)) (x : List UInt8), cutW c a = D ++ [x] → cutW c (a ++ [b]) = D ++ [x ++ [b]]
  | [], D, x, hx => by
    have hx : [[]] = D ++ [x] := hx
    cases D with
    | nil => injection hx with h1 _; subst h1; simp [cutW, h, consHead]
    | cons d D => simp at hx
  | y :: l, D, x, hx => by
    rw [cut_cons] at hx
    rw [List.cons_append, cut_cons]
    split at hx
    · next hy =>
      rw [if_pos hy]
      cases D with
      | nil =>
        injection hx with h1 h2
        exact absurd h2 (cut_ne c l)
      | cons d D =>
        injection hx with h1 h2
        rw [cut_snoc_b h l D x h2, ← h1]; rfl
    · next hy =>
      rw [if_neg hy]
      cases hc : cutW c l with
      | nil => exact absurd hc (cut_ne c l)
      | cons w ws =>
        rw [hc] at hx
        simp only [consHead] at hx
        cases D with
        | nil =>
          injection hx with h1 h2
          subst h2
          rw [cut_snoc_b h l [] w (by rw [hc]; rfl), ← h1]; rfl
        | cons d D =>
          injection hx with h1 h2
          rw [cut_snoc_b h l (w :: D) x (by rw [hc, h2]; rfl), ← h1]; rfl
/-- The words cut so far, and the one under way. -/
structure Cut (c : UInt8) (s : ByteArray) (k from_ : Nat) (ws : List ByteArray) : Prop where
  le : from_ ≤ k
  eq : cutW c (s.data.toList.take k) = ws.map (·.data.toList) ++ [(s.data.toList.take k).drop from_]
theorem ext_list (s : ByteArray) (a b : Nat) : (s.extract a b).data.toList = (s.data.toList.take b).drop a := by
  rw [Lib.extract_data]; simp [List.drop_take]
theorem Cut.start (c : UInt8) (s : ByteArray) : Cut c s 0 0 [] := ⟨Nat.le_refl _, rfl⟩
theorem Cut.hit {c : UInt8} {s : ByteArray} {k f : Nat} {ws : List ByteArray} (h : Cut c s k f ws) (hk : k < s.size) (hb : s[k] = c) : Cut c s (k + 1) (k + 1) (ws ++ [s.extract f k]) := by
  refine ⟨Nat.le_refl _, ?_⟩
  rw [take_byte hk, hb, cut_snoc_c, h.eq, List.map_append, List.map_singleton, ext_list]
  have : (s.data.toList.take k ++ [c]).drop (k + 1) = [] := by
    apply List.drop_eq_nil_of_le
    simp
    exact Nat.min_le_left _ _
  rw [this]
theorem Cut.skip {c : UInt8} {s : ByteArray} {k f : Nat} {ws : List ByteArray} (h : Cut c s k f ws) (hk : k < s.size) (hb : s[k] ≠ c) : Cut c s (k + 1) f ws := by
  refine ⟨Nat.le_succ_of_le h.le, ?_⟩
  rw [take_byte hk, cut_snoc_b hb _ _ _ h.eq]
  have hl : (s.data.toList.take k).length = k := by rw [List.length_take, Array.length_toList]; exact Nat.min_eq_left (Nat.le_of_lt hk)
  have hle := h.le
  rw [List.drop_append_of_le_length (by omega)]
theorem Cut.done {c : UInt8} {s : ByteArray} {k f : Nat} {ws : List ByteArray} (h : Cut c s k f ws) (hk : s.size ≤ k) : (ws ++ [s.extract f s.size]).map (·.data.toList) = cutW c s.data.toList := by
  have hl : s.data.toList.take k = s.data.toList := List.take_of_length_le (by rw [Array.length_toList]; exact hk)
  have h2 : s.data.toList.take s.size = s.data.toList := List.take_of_length_le (by rw [Array.length_toList]; exact Nat.le_refl _)
  have h3 := h.eq
  rw [hl] at h3
  rw [List.map_append, List.map_singleton, ext_list, h2, h3]
theorem str_info : (Tryz.prog.info? 9).map (fun i => (i.zero, i.size, i.bytes)) = some (some (.string ⟨#[]⟩), 1, 16) := by kernel_rfl
theorem str_reads1 (w : World) (s : ByteArray) : Reads (w.alloc (.cells #[.string s] 9)) (w.heap.size + 1) 1 (some ⟨w.heap.size, 0, none⟩) 1 [.string s] :=
  ⟨rfl, fun _ => ⟨_, rfl, by simp, news_cells w [_] _⟩⟩
theorem str_one1 (s : ByteArray) : ∀ u ∈ [Value.string s], u.oneCell' = true := fun u hu => by simp at hu; subst hu; rfl
theorem own_fm1 {w : World} {base sz n : Nat} {e : TypeId} {v : Value} {xs : List Value} (h : w.ownsRow base e sz v n xs) : ∃ a cap, v = .slice a n cap := by
  rcases Go.Joins.ownsRow_forms h with ⟨rfl, h0⟩ | ⟨g, cap, rfl⟩
  · exact ⟨none, 0, by rw [h0]⟩
  · exact ⟨_, _, rfl⟩
set_option maxHeartbeats 4000000 in
theorem spec_l1Split_any (s : ByteArray) (c : UInt8) (w : World) (hs : s.size ≤ 1048576) :
    Calls Tryz.prog 21 #[.string s, .int .u8 (c.toNat : Int)] w fun e w' => ∃ (v : Value) (ws : List ByteArray), e = .returned v ∧ w'.ownsRow w.heap.size 9 1 v ws.length (ws.map Value.string) ∧ ws.map (·.data.toList) = cutW c s.data.toList ∧ Below w.heap.size w w' := by
  obtain ⟨i0, hi, hz0, hz1, hz2⟩ := info_parts str_info
  have C0 := Lib.hid (Cut.start c s)
  go_enter Tryz.func21, Tryz.ntmps21
  go_wp2_with fail
  go_loopw [5, 6, 7] (fun so sf si wr => ∃ (k f : Nat) (u : Value) (ws : List ByteArray), u = so ∧ k ≤ s.size ∧ si = .int .i64 k ∧ sf = .int .i64 f ∧ f ≤ k ∧ ws.length ≤ k ∧ Hid (Cut c s k f ws) ∧ Hid (wr.ownsRow w.heap.size 9 1 u ws.length (ws.map Value.string)) ∧ Hid (Below w.heap.size w wr) ∧ w.heap.size ≤ wr.heap.size) (fun _ _ si _ => s.size - (intOf si).toNat)
  case atStart => exact ⟨0, 0, _, [], rfl, Nat.zero_le _, rfl, rfl, Nat.le_refl _, Nat.le_refl _, C0, (show World.ownsRow _ _ _ _ _ _ _ from World.ownsRow_nil _ _ _ _), (show Below _ _ _ from (by repeat (first | exact Below.refl _ _ | assumption | refine Below.drew ?_ | refine below_drewN ?_ _ | refine Below.alloc ?_ (by first | omega | (simp <;> omega)) _ | refine Below.setCell ?_ (by first | omega | (simp <;> omega)) _ | refine Below.trans ?_ (Below.mono (by assumption) (by first | omega | (simp <;> omega)))))), Nat.le_refl _⟩
  case round =>
    clear C0
    obtain ⟨k, f, u, ws, rfl, hk, rfl, rfl, hf, hwl, hC, hO, hB, hsz⟩ := hrel
    obtain ⟨aU, cU, rfl⟩ : ∃ a c, u = .slice a ws.length c := own_fm1 hO.out
    by_cases hlt : k < s.size
    · by_cases hb : s[k] = c
      · have HN := Lib.hid (hC.out.hit hlt hb)
        have i1 : ((s[k].toNat : Int) == (c.toNat : Int)) = true := by rw [hb]; simp
        have j1 : (f : Int) ≤ (k : Int) := by omega
        have j2 : (k : Int) ≤ (s.size : Int) := by omega
        clear hb
        have OX := Lib.hid (World.ownsRow.alloc hO.out (.cells #[.string (s.extract f k)] 9))
        have hbX := Lib.hid (Below.alloc hB.out hsz (.cells #[.string (s.extract f k)] 9))
        have g1 : ws.length + 1 ≤ maxLen := by unfold maxLen; omega
        have g2 : (ws.length + 1) * 16 ≤ 140737488355328 := by omega
        have g3 : w.heap.size ≤ (wr.alloc (.cells #[.string (s.extract f k)] 9)).heap.size := by simp; omega
        have g4 : (Value.string ⟨#[]⟩).cells.size = 1 := rfl
        have g5 := str_reads1 wr (s.extract f k)
        have g6 := str_one1 (s.extract f k)
        go_wp2_with (at_builtin; refine wpList_append_any _ rfl (.tmp 19) (.tmp 24) 31 rfl w.heap.size 9 i0 (.string ⟨#[]⟩) 1 16 Tryz.underlying31 hi hz0 hz1 hz2 g4 (by decide) (.slice aU ws.length cU) ws.length _ (by rfl) OX.out (wr.heap.size + 1) (some ⟨wr.heap.size, 0, none⟩) 1 1 [.string (s.extract f k)] (by rfl) g5 g6 g1 g2 g3 ?_; intro v3 w4 hown3 hg3 hat3; have S4 := Lib.hid (show w4.ownsRow w.heap.size 9 1 v3 (ws ++ [s.extract f k]).length ((ws ++ [s.extract f k]).map Value.string) from (by rw [List.map_append, List.map_singleton, List.length_append]; exact hown3)); have B4 := Lib.hid (grown_below hbX.out OX.out hg3 (Nat.le_refl _) g3); have z4 := hg3.size; (simp at z4); clear hown3 hg3 hat3)
        go_roundw
        case rel => exact ⟨k + 1, k + 1, v3, _, rfl, by omega, by go_num, by go_num, by omega, by simp; omega, HN, S4, B4, by omega⟩
        case measure => simp [intOf]; omega
      · have HN := Lib.hid (hC.out.skip hlt hb)
        have hne : s[k].toNat ≠ c.toNat := fun e => hb (UInt8.toNat_inj.1 e)
        have i1 : ((s[k].toNat : Int) == (c.toNat : Int)) = false := by simp; omega
        clear hb hne
        go_wp2_with fail
        go_roundw
        case rel => exact ⟨k + 1, f, _, ws, rfl, by omega, by go_num, rfl, by omega, by omega, HN, hO, hB, hsz⟩
        case measure => simp [intOf]; omega
    · have HN := Lib.hid (hC.out.done (by omega))
      have j1 : (f : Int) ≤ (s.size : Int) := by omega
      have OX := Lib.hid (World.ownsRow.alloc hO.out (.cells #[.string (s.extract f s.size)] 9))
      have hbX := Lib.hid (Below.alloc hB.out hsz (.cells #[.string (s.extract f s.size)] 9))
      have g1 : ws.length + 1 ≤ maxLen := by unfold maxLen; omega
      have g2 : (ws.length + 1) * 16 ≤ 140737488355328 := by omega
      have g3 : w.heap.size ≤ (wr.alloc (.cells #[.string (s.extract f s.size)] 9)).heap.size := by simp; omega
      have g4 : (Value.string ⟨#[]⟩).cells.size = 1 := rfl
      have g5 := str_reads1 wr (s.extract f s.size)
      have g6 := str_one1 (s.extract f s.size)
      go_wp2_with (at_builtin; refine wpList_append_any _ rfl (.tmp 28) (.tmp 32) 31 rfl w.heap.size 9 i0 (.string ⟨#[]⟩) 1 16 Tryz.underlying31 hi hz0 hz1 hz2 g4 (by decide) (.slice aU ws.length cU) ws.length _ (by rfl) OX.out (wr.heap.size + 1) (some ⟨wr.heap.size, 0, none⟩) 1 1 [.string (s.extract f s.size)] (by rfl) g5 g6 g1 g2 g3 ?_; intro v3 w4 hown3 hg3 hat3; have S4 := Lib.hid (show w4.ownsRow w.heap.size 9 1 v3 (ws ++ [s.extract f s.size]).length ((ws ++ [s.extract f s.size]).map Value.string) from (by rw [List.map_append, List.map_singleton, List.length_append]; exact hown3)); have B4 := Lib.hid (grown_below hbX.out OX.out hg3 (Nat.le_refl _) g3); have z4 := hg3.size; (simp at z4); clear hown3 hg3 hat3)
      go_ret
      exact ⟨_, _, rfl, S4.out, HN.out, B4.out⟩
end Go.Proofs.YtliophgfgmjhiaaGreatDoor
