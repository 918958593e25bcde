/- ParseForm, plain: two readers of numerals that read numerals alike find the same forms. -/
import Derived.Test.YtliophgfgmjhiaaGreatDoorZ17Pf4
namespace Go.Proofs.YtliophgfgmjhiaaGreatDoor
set_option linter.unusedSimpArgs false
set_option linter.unusedVariables false
set_option linter.unnecessarySimpa false
set_option maxRecDepth 200000
open Go.ChangeShapes Go.WideShapes Go.ChangeAt Go.RowKit

theorem form_no32 {h : ByteArray} {c p : Int} (hv : validForm h c p = true) : (32 : UInt8) ∉ (formHead h).data.toList := by
  unfold formHead
  split
  · simp
  · intro hm
    have hok : okForm h = true := by
      unfold validForm at hv
      rw [Bool.and_eq_true, Bool.and_eq_true, Bool.and_eq_true] at hv
      exact hv.1.1.1
    obtain ⟨i, hi, he⟩ := List.mem_iff_getElem.1 hm
    rw [Array.length_toList] at hi
    have h2 := (of_decide_eq_true (by simpa [okForm] using hok : decide (∀ i, (h' : i < h.size) → okAt i h[i] = true) = true)) i hi
    have e : h[i]'hi = 32 := he
    rw [e] at h2
    simp [okAt] at h2
theorem made_words {s h a b d : ByteArray} {c p : Int} (hw : cutW 32 s.data.toList = [a.data.toList, b.data.toList, d.data.toList]) (hm : madeB s h c p = true) :
    0 ≤ c ∧ c ≤ 23 ∧ 0 ≤ p ∧ p ≤ 7 ∧ b = numB c.toNat ∧ d = numB p.toNat := by
  unfold madeB at hm
  rw [Bool.and_eq_true] at hm
  obtain ⟨hv, ht⟩ := hm
  have ht := of_decide_eq_true ht
  obtain ⟨_, hc, hp⟩ := form_parts hv
  have h3 := text_words (h := formHead h) (c := c.toNat) (p := p.toNat) (form_no32 hv) (by omega) (by omega)
  have e : formHead h ++ ⟨#[32]⟩ ++ numB c.toNat ++ ⟨#[32]⟩ ++ numB p.toNat = s := ht
  rw [e, hw] at h3
  injection h3 with h4 h5
  injection h5 with h5 h6
  injection h6 with h6 _
  exact ⟨hc.1, hc.2, hp.1, hp.2, bytes_inj h5, bytes_inj h6⟩
/-- The reader may be changed. -/
theorem made_read {s h a b d : ByteArray} {f g : ByteArray → Int} (hf : ∀ k : Nat, k < 100 → f (numB k) = (k : Int)) (hg : ∀ k : Nat, k < 100 → g (numB k) = (k : Int)) (hw : cutW 32 s.data.toList = [a.data.toList, b.data.toList, d.data.toList])
    (hm : madeB s h (f b) (f d) = true) : g b = f b ∧ g d = f d := by
  obtain ⟨h1, h2, h3, h4, hb, hd⟩ := made_words hw hm
  have e1 := hg (f b).toNat (by omega)
  have e2 := hg (f d).toNat (by omega)
  rw [← hb] at e1
  rw [← hd] at e2
  exact ⟨by omega, by omega⟩
theorem made_alike {s h a b d : ByteArray} {f g : ByteArray → Int} (hf : ∀ k : Nat, k < 100 → f (numB k) = (k : Int)) (hg : ∀ k : Nat, k < 100 → g (numB k) = (k : Int)) (hw : cutW 32 s.data.toList = [a.data.toList, b.data.toList, d.data.toList]) :
    madeB s h (f b) (f d) = madeB s h (g b) (g d) := by
  cases h1 : madeB s h (f b) (f d) with
  | true =>
    obtain ⟨e1, e2⟩ := made_read hf hg hw h1
    rw [e1, e2, h1]
  | false =>
    cases h2 : madeB s h (g b) (g d) with
    | false => rfl
    | true =>
      obtain ⟨e1, e2⟩ := made_read hg hf hw h2
      rw [e1, e2, h2] at h1
      cases h1
end Go.Proofs.YtliophgfgmjhiaaGreatDoor
