/- FormatLog: the program. -/
import Derived.Test.YtliophgfgmjhiaaGreatDoorZ12Lg3
import Derived.Test.YtliophgfgmjhiaaGreatDoorZ00M
import Derived.Test.YtliophgfgmjhiaaGreatDoorZ02M
import Derived.Test.YtliophgfgmjhiaaGreatDoorZ20Lg4
import Derived.Test.YtliophgfgmjhiaaGreatDoorZ04Brk
import Derived.BigRegion
import Derived.BigQuiet
import Derived.Deep.DeepCutAuto
namespace Go.Proofs.YtliophgfgmjhiaaGreatDoor
set_option linter.unusedSimpArgs false
set_option linter.unusedVariables false
set_option linter.unnecessarySimpa false
set_option maxRecDepth 200000
open Go.ChangeShapes Go.WideShapes Go.ChangeAt Go.RowKit

theorem info_str : (Tryz.prog.info? 9).map (fun i => (i.zero, i.size, i.bytes)) = some (some (.string ⟨#[]⟩), 1, 16) := by kernel_rfl
theorem own_fm {w : World} {base sz n : Nat} {e : TypeId} {v : Value} {xs : List Value} (h : w.ownsRow base e sz v n xs) : ∃ a cap, v = .slice a n cap := by
  rcases Go.Joins.ownsRow_forms h with ⟨rfl, h0⟩ | ⟨g, cap, rfl⟩
  · exact ⟨none, 0, by rw [h0]⟩
  · exact ⟨_, _, rfl⟩
/-- The program's table of words. -/
def Table (w : World) : Prop := ∀ k, 1 ≤ k → k ≤ 5 → w.cell? ⟨0, k, none⟩ = some (.string (wordOf k))
theorem Table.call {w w' : World} (h : Table w) (hb : Below w.heap.size w w') : Table w' := fun k h1 h2 => bel_at hb (h k h1 h2)
def wcs (s : ByteArray) : List Value := [.string s]
theorem join_own {w : World} {B n : Nat} {v : Value} {ws : List ByteArray} {T : ByteArray} (h : w.ownsRow B 9 1 v n (ws.map Value.string)) (hn : n = ws.length) (h0 : n ≠ 0) (h6 : n ≤ 1000) (hT : Lib.join (ws.map (·.data.toList)) [59] = T.data.toList) (hs : T.size ≤ 1000000) :
    Calls Tryz.prog 36 #[v, .string ⟨#[59]⟩] w fun e w' => e = .returned (.string T) ∧ Below w.heap.size w w' := by
  obtain ⟨g, cap, rfl⟩ := Go.Joins.ownsRow_form h (by omega)
  subst hn
  have hcap : ws.length ≤ cap := by
    rcases h.2 with ⟨e, _⟩ | ⟨g2, cap2, cur, e, _, _, h3, _⟩
    · cases e
    · injection e with e1 e2 e3; omega
  have hlen : (Lib.join (ws.map (·.data.toList)) (ByteArray.mk #[59]).data.toList).length ≤ 140737488355328 := by
    show (Lib.join (ws.map (·.data.toList)) [59]).length ≤ _
    rw [hT, Array.length_toList]
    have : T.data.size = T.size := rfl
    omega
  refine (Tryz.strings_Join g 0 cap ws ⟨#[59]⟩ w (fun j x hx => ?_) (World.ownsRow.lt h g rfl).2 (by omega) hcap hlen).mono ?_
  · have := World.ownsRow.cells h (g := g) rfl j (.string x) (by rw [List.getElem?_map, hx]; rfl)
    rwa [Addr.add_lit] at this
  · rintro e w2 ⟨rfl, hb⟩
    refine ⟨ret_str ?_, hb⟩
    apply ByteArray.ext
    show (Lib.join (ws.map (·.data.toList)) [59]).toArray = T.data
    (rw [hT]; try simp)
theorem str_reads (w : World) (s : ByteArray) : Reads (w.alloc (.cells #[.string s] 9)) (w.heap.size + 1) 1 (some ⟨w.heap.size, 0, none⟩) 1 [.string s] :=
  ⟨rfl, fun _ => ⟨_, rfl, by simp, news_cells w [_] _⟩⟩
theorem str_one (s : ByteArray) : ∀ u ∈ [Value.string s], u.oneCell' = true := fun u hu => by simp at hu; subst hu; rfl
theorem ok_no {x : E3} (h : okStep x = false) : ¬ (1 ≤ x.a ∧ x.a ≤ 5) ∨ ((1 ≤ x.a ∧ x.a ≤ 5) ∧ ¬ (0 ≤ x.b ∧ x.b ≤ 39)) ∨ ((1 ≤ x.a ∧ x.a ≤ 5) ∧ (0 ≤ x.b ∧ x.b ≤ 39) ∧ ¬ (0 ≤ x.c ∧ x.c ≤ 39)) ∨ ((1 ≤ x.a ∧ x.a ≤ 5) ∧ (0 ≤ x.b ∧ x.b ≤ 39) ∧ (0 ≤ x.c ∧ x.c ≤ 39) ∧ ¬ x.c = 0 ∧ twoR x = false) := by
  by_cases ha : 1 ≤ x.a ∧ x.a ≤ 5
  · by_cases hb : 0 ≤ x.b ∧ x.b ≤ 39
    · by_cases hc : 0 ≤ x.c ∧ x.c ≤ 39
      · unfold okStep at h
        rw [decide_eq_true ha, decide_eq_true hb, decide_eq_true hc] at h
        simp at h
        exact .inr (.inr (.inr ⟨ha, hb, hc, h.2, h.1⟩))
      · exact .inr (.inr (.inl ⟨ha, hb, hc⟩))
    · exact .inr (.inl ⟨ha, hb⟩)
  · exact .inl ha
end Go.Proofs.YtliophgfgmjhiaaGreatDoor
