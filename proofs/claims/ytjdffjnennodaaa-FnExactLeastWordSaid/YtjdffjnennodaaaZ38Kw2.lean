/- The set of seen keys, the nodes of the search, clones of words: the program's search for a word. -/
import Derived.Test.YtjdffjnennodaaaZ36Kw1
import Derived.Test.YtjdffjnennodaaaZ30M
import Derived.Test.YtjdffjnennodaaaZ10Two2
import Derived.Test.YtjdffjnennodaaaZ37CatGate
import Derived.BigRegion
import Derived.BigQuiet
import Derived.WalkSpells
namespace Go.Proofs.Ytjdffjnennodaaa
set_option linter.unusedSimpArgs false
set_option linter.unusedVariables false
set_option linter.unnecessarySimpa false
set_option maxRecDepth 200000
open Go.ChangeShapes Go.WideShapes Go.ChangeAt Go.RowKit Go.Maps

theorem slices_Clone_Gate (v : Value) (ts : List E3) (w : World) (h : RdE w v E3.cs 3 ts) (hn : ts.length ≤ 1048576) :
    Calls Try.prog 47 #[v] w fun e w' => ∃ v', e = .returned v' ∧ OwnE w' w.heap.size 57 v' E3.cs 3 ts ∧ Below w.heap.size w w' := by
  obtain ⟨i0, hi, hz0, hz1, hz2⟩ := info_parts info_Gate
  obtain ⟨A, c, rfl, _⟩ := h.form
  rcases A with _ | ad
  · have h0 : ts = [] := by
      rcases h.cases0 E3.len with ⟨h0, _⟩ | ⟨_, b, off, cap, e, _⟩
      · exact h0
      · cases e
    subst h0
    have hq := fun (W : World) (n c n2 c2 : Nat) => Lib.run_eql_slice_nil (P := Try.prog) W 34 57 none n c n2 c2 Try.underlying34
    clear h
    go_enter Try.func47, Try.ntmps47
    go_wp2_with fail
    go_ret
    exact ⟨_, rfl, OwnE.nil _ _ _, (by repeat (first | exact Below.refl _ _ | assumption | refine Below.drew ?_ | refine below_drewN ?_ _ | refine Below.alloc ?_ (by first | omega | (simp <;> omega)) _ | refine Below.setCell ?_ (by first | omega | (simp <;> omega)) _ | refine Below.trans ?_ (Below.mono (by assumption) (by first | omega | (simp <;> omega)))))⟩
  · have HR := Lib.hid (Reads.below (Reads.of_rd h) (show Below w.heap.size w (w.alloc (.cells #[] 57)) from (by repeat (first | exact Below.refl _ _ | assumption | refine Below.drew ?_ | refine below_drewN ?_ _ | refine Below.alloc ?_ (by first | omega | (simp <;> omega)) _ | refine Below.setCell ?_ (by first | omega | (simp <;> omega)) _ | refine Below.trans ?_ (Below.mono (by assumption) (by first | omega | (simp <;> omega)))))))
    have hq := fun (W : World) (n c n2 c2 : Nat) => Lib.run_eql_slice_nil (P := Try.prog) W 34 57 (some ad) n c n2 c2 Try.underlying34
    clear h
    go_enter Try.func47, Try.ntmps47
    go_wp2_with (at_builtin; refine wpList_append_any _ rfl _ _ 34 rfl w.heap.size 57 i0 (.agg #[.int .i64 0, .int .i64 0, .int .i64 0]) 3 24 Try.underlying34 hi hz0 hz1 hz2 rfl (by decide) (.slice (some ⟨w.heap.size, 0, none⟩) 0 0) 0 [] rfl (own_lit0 (f := E3.cs) (sz := 3) w w.heap.size 57 w.heap.size rfl (Nat.le_refl _)) w.heap.size (some ad) ts.length c (ts.flatMap E3.cs) rfl HR.out (flat_one E3.one _) (by unfold maxLen; omega) (by omega) (by simp) ?_; intro v1 w1 hown1 hg1 hat1)
    go_ret
    refine ⟨v1, rfl, by simpa [OwnE] using hown1, ?_⟩
    exact Below.grown (show Below w.heap.size w (w.alloc (.cells #[] 57)) from (by repeat (first | exact Below.refl _ _ | assumption | refine Below.drew ?_ | refine below_drewN ?_ _ | refine Below.alloc ?_ (by first | omega | (simp <;> omega)) _ | refine Below.setCell ?_ (by first | omega | (simp <;> omega)) _ | refine Below.trans ?_ (Below.mono (by assumption) (by first | omega | (simp <;> omega)))))) hg1 (by simp) (fun k hk => by simp [Value.ownBlock] at hk; omega)
theorem plainElem_bool_inv {H : Type} {P : Program} {e : TypeId} (he : P.underlying e = some .bool) {v : Value} {z : DataW H × List MemPlace} (h : plainElem P e v = some z) : ∃ x, v = .bool x ∧ z = (.lit (.bool x), []) := by
  unfold plainElem at h
  rw [he] at h
  cases v <;> simp at h
  exact ⟨_, rfl, h.symm⟩
theorem zero_bool (w : World) : (zeroValue 4).run Try.prog w = .ok (.bool false) w := by kernel_rfl
/-- The map in block B holds just the keys Ks. -/
def Seen (w : World) (B m : Nat) (Ks : List Value) : Prop :=
  ∃ D : DataW Unit, w.ownsMap Try.prog 76 (plainElem Try.prog 4) B m D ∧ ∀ v l, keyOf Try.prog 76 v = some l → ((v ∈ Ks → D.atKey l (.lit (.bool false)) = .lit (.bool true)) ∧ (v ∉ Ks → D.atKey l (.lit (.bool false)) = .lit (.bool false)))
section
variable {w w' : World} {B m : Nat} {Ks : List Value}
theorem Seen.made (w : World) : Seen (w.alloc (.map #[] 0)) w.heap.size 0 [] :=
  ⟨.map [], World.ownsMap_made _ _ _ _, fun v l _ => ⟨fun h => by simp at h, fun _ => rfl⟩⟩
theorem Seen.kept (h : Seen w B m Ks) {r : Option Nat} (hg : w.grownBy w' r) (hne : some B ≠ r) : Seen w' B m Ks := by
  obtain ⟨D, h1, h2⟩ := h
  exact ⟨D, h1.kept hg hne, h2⟩
theorem Seen.call (h : Seen w B m Ks) (hb : Below w.heap.size w w') : Seen w' B m Ks :=
  h.kept (r := none) ⟨hb.os, hb.tape, hb.output, hb.size, fun i hi _ => hb.block i hi⟩ (by simp)
theorem Seen.drew (h : Seen w B m Ks) : Seen w.drew B m Ks := h
theorem Seen.lt (h : Seen w B m Ks) : B < w.heap.size := by obtain ⟨D, h1, _⟩ := h; exact h1.lt
theorem Seen.look (h : Seen w B m Ks) {v : Value} {l : Lit} (hk : keyOf Try.prog 76 v = some l) {b : Bool} (hb : b = true ↔ v ∈ Ks) :
    (Instr.lookup 78 (.map (some B)) v false).run Try.prog w = .ok (.bool b) w := by
  obtain ⟨D, h1, h2⟩ := h
  obtain ⟨x, ps, hrun, hx⟩ := h1.lookup key_law Try.underlying78 (zero_bool w) (plainElem_bool Try.underlying4 false) hk
  obtain ⟨c, rfl, hc⟩ := plainElem_bool_inv Try.underlying4 hx
  injection hc with hc _
  obtain ⟨i1, i2⟩ := h2 v l hk
  rw [hrun]
  by_cases hv : v ∈ Ks
  · rw [i1 hv] at hc; injection hc with hc; injection hc with hc; rw [← hc, hb.2 hv]
  · rw [i2 hv] at hc; injection hc with hc; injection hc with hc
    have : b = false := by cases b; rfl; exact absurd (hb.1 rfl) hv
    rw [← hc, this]
theorem Seen.put (h : Seen w B m Ks) {v : Value} {l : Lit} (hk : keyOf Try.prog 76 v = some l) (hm : m < maxLen) :
    ∃ w', (Instr.mapUpdate 78 (.map (some B)) v (.bool true)).run Try.prog w = .ok () w' ∧ Seen w' B (m + 1) (v :: Ks) ∧ w.grownBy w' (some B) := by
  obtain ⟨D, h1, h2⟩ := h
  obtain ⟨w', hrun, h3, hg⟩ := h1.update key_law Try.underlying78 hm hk (plainElem_bool Try.underlying4 true)
  refine ⟨w', hrun, ⟨_, h3, fun u l2 hu => ?_⟩, hg⟩
  obtain ⟨i1, i2⟩ := h2 u l2 hu
  by_cases e : l2 = l
  · subst e
    have huv : u = v := key_law.inj hu hk
    subst huv
    have hat := Maps.atKey_put_same (D := D) (h1.tidy key_law).isMap (key_law.key hk) (.lit (.bool true)) (.lit (.bool false))
    exact ⟨fun _ => hat, fun hn => absurd (by simp) hn⟩
  · have huv : u ≠ v := fun e2 => e (by subst e2; rw [hk] at hu; injection hu with hu; exact hu.symm)
    have hat := Maps.atKey_put_other (D := D) e (.lit (.bool true)) (.lit (.bool false))
    exact ⟨fun hu2 => hat.trans (i1 (by simpa [huv] using hu2)), fun hu2 => hat.trans (i2 (by simpa [huv] using hu2))⟩
theorem Seen.off (h : Seen w B m Ks) {base sz n : Nat} {e : TypeId} {v : Value} {xs : List Value} (ho : w.ownsRow base e sz v n xs) : some B ≠ v.ownBlock := by
  obtain ⟨D, ⟨es, clock, hb, _⟩, _⟩ := h
  intro hv
  rcases ho.2 with ⟨rfl, _⟩ | ⟨g, cap, cur, rfl, _, hg, _⟩
  · cases hv
  · have e2 : B = g := by injection hv
    subst e2
    rw [hg] at hb; cases hb
theorem Seen.off_box (h : Seen w B m Ks) {g : Nat} {us : List Value} (hb : Bw w g us) (hu : us ≠ []) : g ≠ B := by
  obtain ⟨D, ⟨es, clock, hm, _⟩, _⟩ := h
  rintro rfl
  obtain ⟨u, us2, rfl⟩ := List.exists_cons_of_ne_nil hu
  have hc := hb.cs 0 u rfl
  unfold World.cell? at hc
  rw [hm] at hc; cases hc
end
/-- A node in memory: a tableau's images, a word. -/
structure NodeV where
  x : Value
  z : Value
  g : Value
def NodeV.cs (n : Nat) (m : NodeV) : List Value := [.int .i64 (n : Int), m.x, m.z, m.g]
theorem NodeV.len (n : Nat) (m : NodeV) : (NodeV.cs n m).length = 4 := rfl
/-- The gates of a word. -/
def gte (t : Nat × Nat × Nat) : E3 := ⟨(t.1 : Int), (t.2.1 : Int), (t.2.2 : Int)⟩
def gts (n : Nat) (w : List Nat) : List E3 := w.map fun g => gte (ltr3 n g)
structure Nd (w : World) (n : Nat) (p : TT × List Nat) (m : NodeV) : Prop where
  x : w.ownsRow 0 62 3 m.x n ((pes p.1.1).flatMap E3.cs)
  z : w.ownsRow 0 62 3 m.z n ((pes p.1.2).flatMap E3.cs)
  g : w.ownsRow 0 57 3 m.g p.2.length ((gts n p.2).flatMap E3.cs)
theorem own_kept {w w' : World} {base sz n : Nat} {e : TypeId} {v : Value} {xs : List Value} (h : w.ownsRow base e sz v n xs) {r : Option Nat} (hg : w.grownBy w' r) (hr : ∀ b, r = some b → ∀ cur, w.heap[b]? ≠ some (.cells cur e)) : w'.ownsRow base e sz v n xs := by
  refine ⟨h.1, ?_⟩
  rcases h.2 with h0 | ⟨g, cap, cur, rfl, hbg, hg2, q⟩
  · exact .inl h0
  · exact .inr ⟨g, cap, cur, rfl, hbg, by rw [hg.block g (Array.getElem?_eq_some_iff.1 hg2).1 (fun hh => hr g hh.symm cur hg2)]; exact hg2, q⟩
section
variable {w w' : World} {n : Nat} {p : TT × List Nat} {m : NodeV}
theorem Nd.kept (h : Nd w n p m) {r : Option Nat} (hg : w.grownBy w' r) (hr : ∀ b, r = some b → ∀ cur, w.heap[b]? ≠ some (.cells cur 62) ∧ w.heap[b]? ≠ some (.cells cur 57)) : Nd w' n p m :=
  ⟨own_kept h.x hg (fun b hb cur => (hr b hb cur).1), own_kept h.z hg (fun b hb cur => (hr b hb cur).1), own_kept h.g hg (fun b hb cur => (hr b hb cur).2)⟩
theorem Nd.call (h : Nd w n p m) (hb : Below w.heap.size w w') : Nd w' n p m := ⟨own_below h.x hb rfl, own_below h.z hb rfl, own_below h.g hb rfl⟩
end
/-- The nodes of a list. -/
structure Nds (w : World) (n : Nat) (ps : List (TT × List Nat)) (M : List NodeV) : Prop where
  len : M.length = ps.length
  get : ∀ (i : Nat) (p : TT × List Nat) (m : NodeV), ps[i]? = some p → M[i]? = some m → Nd w n p m
section
variable {w w' : World} {n : Nat} {ps : List (TT × List Nat)} {M : List NodeV}
theorem Nds.kept (h : Nds w n ps M) {r : Option Nat} (hg : w.grownBy w' r) (hr : ∀ b, r = some b → ∀ cur, w.heap[b]? ≠ some (.cells cur 62) ∧ w.heap[b]? ≠ some (.cells cur 57)) : Nds w' n ps M := ⟨h.len, fun i p m hp hm => (h.get i p m hp hm).kept hg hr⟩
theorem Nds.call (h : Nds w n ps M) (hb : Below w.heap.size w w') : Nds w' n ps M := ⟨h.len, fun i p m hp hm => (h.get i p m hp hm).call hb⟩
theorem Nds.nil : Nds w n [] [] := ⟨rfl, fun i p m hp _ => by simp at hp⟩
theorem Nds.add (h : Nds w n ps M) {p : TT × List Nat} {m : NodeV} (h2 : Nd w n p m) : Nds w n (ps ++ [p]) (M ++ [m]) := by
  refine ⟨by simp [h.len], fun i q k hq hk => ?_⟩
  by_cases hi : i < ps.length
  · rw [List.getElem?_append_left hi] at hq
    rw [List.getElem?_append_left (by rw [h.len]; exact hi)] at hk
    exact h.get i q k hq hk
  · rw [List.getElem?_append_right (by omega)] at hq
    rw [List.getElem?_append_right (by rw [h.len]; omega), h.len] at hk
    have hz : i - ps.length = 0 := by
      rcases Nat.eq_zero_or_pos (i - ps.length) with h0 | h0
      · exact h0
      · rw [List.getElem?_eq_none (by simp; omega)] at hq; cases hq
    rw [hz] at hq hk
    simp only [List.getElem?_cons_zero, Option.some.injEq] at hq hk
    subst hq; subst hk; exact h2
theorem map_no_cells {B m : Nat} {Ks : List Value} (h : Seen w B m Ks) : ∀ b, some B = some b → ∀ cur, w.heap[b]? ≠ some (.cells cur 62) ∧ w.heap[b]? ≠ some (.cells cur 57) := by
  obtain ⟨D, ⟨es, clock, hb, _⟩, _⟩ := h
  intro b e cur
  have e2 : B = b := by injection e
  subst e2
  rw [hb]
  exact ⟨fun h => (by cases h), fun h => (by cases h)⟩
theorem node_no_cells {base k sz : Nat} {v : Value} {xs : List Value} (h : w.ownsRow base 73 sz v k xs) : ∀ b, v.ownBlock = some b → ∀ cur, w.heap[b]? ≠ some (.cells cur 62) ∧ w.heap[b]? ≠ some (.cells cur 57) := by
  intro b hb cur
  rcases h.2 with ⟨rfl, _⟩ | ⟨g, cap, c2, rfl, _, hg, _⟩
  · cases hb
  · have e2 : g = b := by injection hb
    subst e2
    rw [hg]
    refine ⟨fun h => ?_, fun h => ?_⟩ <;> (injection h with h; injection h with _ h; exact absurd h (by decide))
end
end Go.Proofs.Ytjdffjnennodaaa
