/- What the arguments of the laws look like as values: integers, strings and plain structs. -/
import Derived.Test.YtfjokpgcmhebfaaBase
namespace Go.Proofs.Ytfjokpgcmhebfaa
set_option linter.unusedSimpArgs false
set_option linter.unusedVariables false
open Go.ChangeShapes Go.WideShapes Go.ChangeAt Go.RowKit Go.Joins
open Go.ChangeMaps (open_string shut_string)

def IsInt (v : Value) : Prop := ∃ n : Int, v = .int .i64 n ∧ -9223372036854775808 ≤ n ∧ n ≤ 9223372036854775807
def IsStr (v : Value) : Prop := ∃ s : ByteArray, v = .string s ∧ s.size ≤ 9223372036854775807
def IsBool (v : Value) : Prop := ∃ b : Bool, v = .bool b

section
variable {H : Type} {enc : TypeId × Value → H} {W : World} {base : Nat} {spare : Nat → Bool} {held : Bool} {r : Reach} {b0 : Nat}

theorem i64_range {n : Int} (h : (Lit.int .i64 n).wf = true) : -9223372036854775808 ≤ n ∧ n ≤ 9223372036854775807 := by
  have h := h
  simp [Lit.wf, IntKind.min, IntKind.max, IntKind.signed, IntKind.bits] at h
  omega

theorem isInt_of {t : TypeId} (ht : Try.prog.underlying t = some (.int .i64)) {v : Value} {d : DataW H} {p : List MemPlace} (hv : Value.okWide Try.prog W r b0 t v) (h : DataW.Trod enc Try.prog W base spare held t v d p) : IsInt v := by
  obtain ⟨n, rfl, rfl, rfl, hw⟩ := open_int ht hv h
  exact ⟨n, rfl, i64_range hw⟩
theorem isStr_of {t : TypeId} (ht : Try.prog.underlying t = some .string) {v : Value} {d : DataW H} {p : List MemPlace} (hv : Value.okWide Try.prog W r b0 t v) (h : DataW.Trod enc Try.prog W base spare held t v d p) : IsStr v := by
  obtain ⟨s, rfl, rfl, rfl, hs⟩ := open_string ht hv h
  exact ⟨s, rfl, by simpa [maxLen] using hs⟩
theorem isBool_of {t : TypeId} (ht : Try.prog.underlying t = some .bool) {v : Value} {d : DataW H} {p : List MemPlace} (hv : Value.okWide Try.prog W r b0 t v) (h : DataW.Trod enc Try.prog W base spare held t v d p) : IsBool v := by
  obtain ⟨b, rfl, rfl, rfl⟩ := open_bool ht hv h
  exact ⟨b, rfl⟩
theorem cellInt_of {n : Nat} {t : TypeId} (ht : Try.prog.underlying t = some (.int .i64)) {v : Value} {y : DataW H × List MemPlace} (h : DataW.trod enc Try.prog W base spare held n t [v] = some y) : IsInt v := by
  obtain ⟨k, e, _, hw⟩ := DataW.trod_int ht h
  simp at e
  exact ⟨k, e, i64_range hw⟩
theorem cellStr_of {n : Nat} {t : TypeId} (ht : Try.prog.underlying t = some .string) {v : Value} {y : DataW H × List MemPlace} (h : DataW.trod enc Try.prog W base spare held n t [v] = some y) : IsStr v := by
  obtain ⟨k, e, _, hw⟩ := DataW.trod_string ht h
  simp at e
  exact ⟨k, e, by simpa [maxLen] using hw⟩

def IsRing (v : Value) : Prop := ∃ a b c d : Value, v = .agg #[a, b, c, d] ∧ IsInt a ∧ IsInt b ∧ IsInt c ∧ IsInt d
theorem isRing_of {v : Value} {d : DataW H} {p : List MemPlace} (hv : Value.okWide Try.prog W r b0 23 v) (h : DataW.Trod enc Try.prog W base spare held 23 v d p) : IsRing v := by
  obtain ⟨v0, v1, v2, v3, y0, y1, y2, y3, n, rfl, rfl, rfl, h0, h1, h2, h3⟩ := open_agg4 Try.underlying23 (by kernel_rfl) (by kernel_rfl) hv h
  exact ⟨v0, v1, v2, v3, rfl, cellInt_of Try.underlying3 h0, cellInt_of Try.underlying3 h1, cellInt_of Try.underlying3 h2, cellInt_of Try.underlying3 h3⟩
theorem isTwoLevel_of {v : Value} {d : DataW H} {p : List MemPlace} (hv : Value.okWide Try.prog W r b0 30 v) (h : DataW.Trod enc Try.prog W base spare held 30 v d p) : IsRing v := by
  obtain ⟨v0, v1, v2, v3, y0, y1, y2, y3, n, rfl, rfl, rfl, h0, h1, h2, h3⟩ := open_agg4 Try.underlying30 (by kernel_rfl) (by kernel_rfl) hv h
  exact ⟨v0, v1, v2, v3, rfl, cellInt_of Try.underlying3 h0, cellInt_of Try.underlying3 h1, cellInt_of Try.underlying3 h2, cellInt_of Try.underlying3 h3⟩
end
end Go.Proofs.Ytfjokpgcmhebfaa
