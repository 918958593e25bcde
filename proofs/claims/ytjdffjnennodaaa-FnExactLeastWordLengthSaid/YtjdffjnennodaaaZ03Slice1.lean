/- Slices of structs of whole numbers: general lemmas over any program. -/
import Derived.Test.YtjdffjnennodaaaZ02Slice0
import Derived.Deep.RegionHeld3
namespace Go.Proofs.Ytjdffjnennodaaa
set_option linter.unusedSimpArgs false
set_option linter.unusedVariables false
set_option linter.unnecessarySimpa false
set_option maxRecDepth 200000
open Go.ChangeShapes Go.WideShapes Go.ChangeAt Go.RowKit

structure E2 where (a b : Int)
deriving DecidableEq
structure E3 where (a b c : Int)
deriving DecidableEq
structure E4 where (a b c d : Int)
deriving DecidableEq
structure EW where (a b : Int) (h : Bool)
deriving DecidableEq
def E2.cs (x : E2) : List Value := [.int .i64 x.a, .int .i64 x.b]
def E3.cs (x : E3) : List Value := [.int .i64 x.a, .int .i64 x.b, .int .i64 x.c]
def E4.cs (x : E4) : List Value := [.int .i64 x.a, .int .i64 x.b, .int .i64 x.c, .int .i64 x.d]
def EW.cs (x : EW) : List Value := [.int .i64 x.a, .int .i64 x.b, .bool x.h]

theorem E2.len (x : E2) : x.cs.length = 2 := rfl
theorem E3.len (x : E3) : x.cs.length = 3 := rfl
theorem E4.len (x : E4) : x.cs.length = 4 := rfl
theorem EW.len (x : EW) : x.cs.length = 3 := rfl

section
variable {α : Type} {f : α → List Value} {sz : Nat}
theorem flat_len (hf : ∀ x, (f x).length = sz) (xs : List α) : (xs.flatMap f).length = xs.length * sz := by
  induction xs with
  | nil => simp
  | cons x xs ih => simp [hf, ih, Nat.add_mul]; omega
theorem flat_get (hf : ∀ x, (f x).length = sz) : ∀ (xs : List α) (i j : Nat) (hi : i < xs.length), j < sz → (xs.flatMap f)[i * sz + j]? = (f xs[i])[j]?
  | [], _, _, hi, _ => by simp at hi
  | x :: xs, 0, j, _, hj => by
    simp only [List.flatMap_cons, Nat.zero_mul, Nat.zero_add, List.getElem_cons_zero]
    rw [List.getElem?_append_left (by rw [hf]; exact hj)]
  | x :: xs, i + 1, j, hi, hj => by
    simp only [List.flatMap_cons, List.getElem_cons_succ]
    rw [List.getElem?_append_right (by rw [hf, Nat.add_mul]; omega), hf]
    have e : (i + 1) * sz + j - sz = i * sz + j := by rw [Nat.add_mul]; omega
    rw [e]
    exact flat_get hf xs i j (by simpa using hi) hj

/-- A slice value that reads as the elements xs, each of sz cells. -/
def RdE (w : World) (v : Value) (f : α → List Value) (sz : Nat) (xs : List α) : Prop := Rd w v xs.length sz (xs.flatMap f)
/-- A slice of such elements that the call itself has made. -/
def OwnE (w : World) (base : Nat) (e : TypeId) (v : Value) (f : α → List Value) (sz : Nat) (xs : List α) : Prop := w.ownsRow base e sz v xs.length (xs.flatMap f)
theorem OwnE.rd {w : World} {base : Nat} {e : TypeId} {v : Value} {xs : List α} (h : OwnE w base e v f sz xs) : RdE w v f sz xs := Rd.of_own h
theorem OwnE.below {w w' : World} {base B : Nat} {e : TypeId} {v : Value} {xs : List α} (h : OwnE w base e v f sz xs) (hb : Below B w w') (hB : B = w.heap.size) : OwnE w' base e v f sz xs := own_below h hb hB
theorem OwnE.set {w : World} {base : Nat} {e : TypeId} {v : Value} {xs : List α} (h : OwnE w base e v f sz xs) {a : Addr} (ha : a.block < base) (u : Value) : OwnE (w.setCell a u) base e v f sz xs := ownsRow_setCell_below h ha u
theorem OwnE.lt {w : World} {base : Nat} {e : TypeId} {v : Value} {xs : List α} (h : OwnE w base e v f sz xs) : ∀ k, v.ownBlock = some k → base ≤ k ∧ k < w.heap.size := World.ownsRow.lt h
theorem OwnE.le {w : World} {base base' : Nat} {e : TypeId} {v : Value} {xs : List α} (h : OwnE w base e v f sz xs) (hb : base' ≤ base) : OwnE w base' e v f sz xs := own_le h hb
theorem OwnE.nil (w : World) (base : Nat) (e : TypeId) : OwnE w base e (.slice none 0 0) f sz ([] : List α) := World.ownsRow_nil _ _ _ _
theorem OwnE.forms {w : World} {base : Nat} {e : TypeId} {v : Value} {xs : List α} (h : OwnE w base e v f sz xs) : ∃ a cap, v = .slice a xs.length cap := by
  rcases Go.Joins.ownsRow_forms h with ⟨rfl, h0⟩ | ⟨g, cap, rfl⟩
  · exact ⟨none, 0, by rw [h0]⟩
  · exact ⟨_, _, rfl⟩
theorem RdE.below {w w' : World} {B : Nat} {v : Value} {xs : List α} (h : RdE w v f sz xs) (hb : Below B w w') (hB : B = w.heap.size) : RdE w' v f sz xs := Rd.below h hb hB
theorem RdE.form {w : World} {v : Value} {xs : List α} (h : RdE w v f sz xs) : ∃ a cap, v = .slice a xs.length cap ∧ xs.length ≤ 9223372036854775807 := by
  rcases h.2 with ⟨⟨a0, c0, rfl⟩, h0⟩ | ⟨b, off, cap, rfl, _, h1, h2, _⟩
  · exact ⟨a0, c0, by rw [h0], by omega⟩
  · exact ⟨_, _, rfl, by omega⟩
theorem RdE.cases0 {w : World} {v : Value} {xs : List α} (hf : ∀ x, (f x).length = sz) (h : RdE w v f sz xs) : (xs = [] ∧ ∃ a cap, v = .slice a 0 cap) ∨
    (0 < xs.length ∧ ∃ b off cap, v = .slice (some ⟨b, off, none⟩) xs.length cap ∧ b < w.heap.size ∧ xs.length ≤ cap ∧ cap ≤ 9223372036854775807 ∧ ∀ i (hi : i < xs.length) j u, j < sz → (f xs[i])[j]? = some u → w.cell? ⟨b, off + (i * sz + j), none⟩ = some u) := by
  rcases h.2 with ⟨⟨a0, c0, rfl⟩, h0⟩ | ⟨b, off, cap, rfl, h1, h2, h3, h4⟩
  · exact .inl ⟨List.eq_nil_of_length_eq_zero h0, a0, c0, rfl⟩
  · rcases Nat.eq_zero_or_pos xs.length with h0 | h0
    · exact .inl ⟨List.eq_nil_of_length_eq_zero h0, _, _, by rw [h0]⟩
    · exact .inr ⟨h0, b, off, cap, rfl, h1, h2, h3, fun i hi j u hj hu => h4 _ u (by rw [flat_get hf xs i j hi hj]; exact hu)⟩
end
theorem own_lit0 {α : Type} {f : α → List Value} {sz : Nat} (w : World) (base : Nat) (e : TypeId) (g : Nat) (hg : g = w.heap.size) (hb : base ≤ g) : OwnE (w.alloc (.cells #[] e)) base e (.slice (some ⟨g, 0, none⟩) 0 0) f sz ([] : List α) := by
  subst hg
  refine ⟨by simp, .inr ⟨w.heap.size, 0, #[], rfl, hb, ?_, Nat.le_refl _, Nat.zero_le _, by simp, by simp⟩⟩
  show (w.heap.push _)[w.heap.size]? = _
  simp
theorem take_nextE {α : Type} (xs : List α) (k : Nat) (h : k < xs.length) : xs.take (k + 1) = xs.take k ++ [xs[k]] := List.take_succ_eq_append_getElem h
theorem eqE_step {α : Type} {xs ys : List α} {k : Nat} (h : Hid (xs.take k = ys.take k)) (h1 : k < xs.length) (h2 : k < ys.length) (he : xs[k] = ys[k]) : Hid (xs.take (k + 1) = ys.take (k + 1)) := by
  show _ = _
  rw [take_nextE xs k h1, take_nextE ys k h2, h.out, he]
theorem eqE_fail {α : Type} [DecidableEq α] {xs ys : List α} {k : Nat} (h1 : k < xs.length) (h2 : k < ys.length) (he : ¬ xs[k] = ys[k]) : false = decide (xs = ys) := by
  symm; rw [decide_eq_false_iff_not]; rintro rfl; exact he rfl
theorem eqE_end {α : Type} [DecidableEq α] {xs ys : List α} {k : Nat} (h : Hid (xs.take k = ys.take k)) (h1 : xs.length ≤ k) (h2 : ys.length ≤ k) : true = decide (xs = ys) := by
  have h := h.out
  rw [List.take_of_length_le h1, List.take_of_length_le h2] at h
  simp [h]
/-- What a function that answers a list of gates and 'ok' leaves: the gates in a block of its own. -/
def SlPost {α : Type} (f : α → List Value) (sz : Nat) (t : TypeId) (w : World) (r : Option (List α)) (e : Ending) (w' : World) : Prop :=
  ∃ v, e = .returned (.tuple #[v, .bool r.isSome]) ∧ OwnE w' w.heap.size t v f sz (r.getD []) ∧ Below w.heap.size w w'
theorem SlPost.none {α : Type} {f : α → List Value} {sz : Nat} {t : TypeId} {w w' : World} {r : Option (List α)} (hr : r = none) (hb : Below w.heap.size w w') : SlPost f sz t w r (.returned (.tuple #[.slice none 0 0, .bool false])) w' := by
  subst hr; exact ⟨_, rfl, OwnE.nil _ _ _, hb⟩
theorem SlPost.some {α : Type} {f : α → List Value} {sz : Nat} {t : TypeId} {w w' : World} {r : Option (List α)} {xs : List α} {v : Value} (hr : r = some xs) (ho : OwnE w' w.heap.size t v f sz xs) (hb : Below w.heap.size w w') : SlPost f sz t w r (.returned (.tuple #[v, .bool true])) w' := by
  subst hr; exact ⟨_, rfl, ho, hb⟩

end Go.Proofs.Ytjdffjnennodaaa
