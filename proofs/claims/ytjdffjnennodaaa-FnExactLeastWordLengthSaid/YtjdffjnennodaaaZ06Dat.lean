/- Plain data of the program's structs with slices, and what arguments of such types look like in memory. -/
import Derived.Test.YtjdffjnennodaaaZ05M
import Derived.Test.YtjdffjnennodaaaZ03Slice1
import Derived.ChangeSame
namespace Go.Proofs.Ytjdffjnennodaaa
set_option linter.unusedSimpArgs false
set_option linter.unusedVariables false
set_option linter.unnecessarySimpa false
set_option maxRecDepth 200000
open Go.ChangeShapes Go.WideShapes Go.ChangeAt Go.RowKit Go.Joins Go.Deep

structure Circ where (n : Int) (gs : List E3)
deriving DecidableEq
structure Tab where (n : Int) (xs : List E3) (zs : List E3)
deriving DecidableEq
structure PP where (n : Int) (ph : Int) (ts : List E2) (out : List Int)
deriving DecidableEq
structure Dia where (n : Int) (ns : List E2) (ws : List EW) (turn : Int) (root : Int)
deriving DecidableEq
def Circ.zero : Circ := ⟨0, []⟩
def Tab.zero : Tab := ⟨0, [], []⟩
def PP.zero : PP := ⟨0, 0, [], []⟩
def Dia.zero : Dia := ⟨0, [], [], 0, 0⟩
/-- Two slices do not lie in one block. -/
def Apart (u v : Value) : Prop := ∀ g, u.ownBlock = some g → v.ownBlock ≠ some g
def I64 (z : Int) : Prop := -9223372036854775808 ≤ z ∧ z ≤ 9223372036854775807
def In2 (xs : List E2) : Prop := ∀ x ∈ xs, I64 x.a ∧ I64 x.b
def In3 (xs : List E3) : Prop := ∀ x ∈ xs, I64 x.a ∧ I64 x.b ∧ I64 x.c
def InW (xs : List EW) : Prop := ∀ x ∈ xs, I64 x.a ∧ I64 x.b
def IsE2S (w : World) (v : Value) : Prop := ∃ xs : List E2, RdE w v E2.cs 2 xs ∧ In2 xs
def IsE3S (w : World) (v : Value) : Prop := ∃ xs : List E3, RdE w v E3.cs 3 xs ∧ In3 xs
def IsEWS (w : World) (v : Value) : Prop := ∃ xs : List EW, RdE w v EW.cs 3 xs ∧ InW xs

theorem own_form {w : World} {base sz n : Nat} {e : TypeId} {v : Value} {xs : List Value} (h : w.ownsRow base e sz v n xs) : ∃ a cap, v = .slice a n cap := by
  rcases Go.Joins.ownsRow_forms h with ⟨rfl, h0⟩ | ⟨g, cap, rfl⟩
  · exact ⟨none, 0, by rw [h0]⟩
  · exact ⟨_, _, rfl⟩
theorem Rd.form_any {w : World} {v : Value} {n sz : Nat} {xs : List Value} (h : Rd w v n sz xs) : ∃ a cap, v = .slice a n cap := by
  rcases h.2 with ⟨⟨a0, c0, rfl⟩, h0⟩ | ⟨b, off, cap, rfl, _⟩
  · exact ⟨a0, c0, by rw [h0]⟩
  · exact ⟨_, _, rfl⟩
theorem own_other {w w' : World} {base sz n : Nat} {e : TypeId} {v v' : Value} {xs : List Value} (hg : w.grownBy w' v'.ownBlock) (ho : w.ownsRow base e sz v n xs) (h : ∀ g, v.ownBlock = some g → v'.ownBlock = some g → False) : w'.ownsRow base e sz v n xs := by
  refine ⟨ho.1, ?_⟩
  rcases ho.2 with h0 | ⟨g, cap, cur, rfl, hbg, hg2, r⟩
  · exact .inl h0
  · exact .inr ⟨g, cap, cur, rfl, hbg, by rw [hg.block g (Array.getElem?_eq_some_iff.1 hg2).1 (fun hh => h g rfl hh.symm)]; exact hg2, r⟩
theorem grown_cell_new {w w1 : World} {X : Obj} {base sz n o : Nat} {e : TypeId} {v u : Value} {xs : List Value} (hg : (w.alloc X).grownBy w1 v.ownBlock) (h0 : w.ownsRow base e sz v n xs) (hc : (w.alloc X).cell? ⟨w.heap.size, o, none⟩ = some u) : w1.cell? ⟨w.heap.size, o, none⟩ = some u := by
  have hb := hg.block w.heap.size (by simp) (fun hh => by have := (World.ownsRow.lt h0 _ hh.symm).2; omega)
  rw [World.cell?_of_block (w := w.alloc X) (w' := w1) (a := ⟨w.heap.size, o, none⟩) hb]; exact hc

section
variable {H : Type} {enc : TypeId × Value → H} {P : Program} {w : World} {base : Nat} {spare : Nat → Bool} {held : Bool}
theorem open_slice_fields {t e : TypeId} {fs : Array Field} {fuel : Nat} {cs : List Value} {x : DataW H × List MemPlace} (ht : P.underlying t = some (.slice e)) (he : P.underlying e = some (.struct fs))
    (hone : oneCellFields P fs = true) (hC : P.cellsOf e = fs.size) (h : DataW.trod enc P w base spare held fuel t cs = some x) :
    (cs = [.slice none 0 0] ∧ x = (.nil, [])) ∨
    ∃ (a : Addr) (len cap m : Nat) (D : Nat → DataW H) (Pl : Nat → List MemPlace), cs = [.slice (some a) len cap] ∧ base ≤ a.block ∧ len ≤ cap ∧ cap ≤ maxLen ∧ m = (if spare a.block then cap else len) ∧
      x = (.slice ((List.range len).map D) ((List.range (m - len)).map fun j => D (len + j)), MemPlace.row a (m * fs.size) ++ (List.range m).flatMap Pl) ∧
      ∀ i, i < m → ∃ (ys : List (DataW H × List MemPlace)) (n : Nat), D i = .agg (ys.map (·.1)) ∧ Pl i = ys.flatMap (·.2) ∧ ys.length = fs.size ∧
        ∀ (j : Nat) (f : Field), fs[j]? = some f → ∃ (v : Value) (y : DataW H × List MemPlace), w.cell? (a.add (i * fs.size + j)) = some v ∧ ys[j]? = some y ∧ DataW.trod enc P w base spare held n f.type [v] = some y := by
  rcases open_slice ht h with h0 | ⟨a, len, cap, m, n, D, Pl, hcs, hb, hl, hm, hmm, hx, hi⟩
  · exact .inl h0
  · refine .inr ⟨a, len, cap, m, D, Pl, hcs, hb, hl, hm, hmm, by rw [hC] at hx; exact hx, fun i him => ?_⟩
    obtain ⟨cs', hc, ht'⟩ := hi i him
    rw [hC] at hc
    obtain ⟨ys, n', hn', hy, hlen, hyl, hf⟩ := DataW.trod_struct he ht'
    obtain ⟨_, hcl, hat⟩ := World.cells?_some hc
    simp only [Prod.mk.injEq] at hy
    refine ⟨ys, n', hy.1, hy.2, hyl, fun j f hj => ?_⟩
    obtain ⟨ho, hk⟩ := hone_of hone j f hj
    have hjl : j < fs.size := (Array.getElem?_eq_some_iff.1 hj).1
    have hcell := hat j hjl
    have hv : cs'[j]? = some (cs'[j]'(by omega)) := List.getElem?_eq_getElem (by omega)
    have h1 := hf j f hj
    rw [ho, hk] at h1
    have hone' : (cs'.drop j).take 1 = [cs'[j]'(by omega)] := by
      rw [List.drop_eq_getElem_cons (by omega)]
      rfl
    rw [hone'] at h1
    have hys : ys[j]? = some (ys[j]'(by omega)) := List.getElem?_eq_getElem (by omega)
    refine ⟨_, _, ?_, hys, h1.trans hys⟩
    rw [← Go.Deep.add_add, hcell, hv]
/-- Slices of structs: out of what each element's cells are. -/
theorem rdE_of {α : Type} {f : α → List Value} {sz : Nat} (hf : ∀ x, (f x).length = sz) (hs0 : 0 < sz) {a : Addr} {len cap : Nat} (hlc : len ≤ cap) (hcm : cap ≤ maxLen) (R : α → Prop)
    (h : ∀ i, i < len → ∃ x : α, R x ∧ ∀ j u, (f x)[j]? = some u → w.cell? (a.add (i * sz + j)) = some u) :
    ∃ xs : List α, RdE w (.slice (some a) len cap) f sz xs ∧ ∀ x ∈ xs, R x := by
  have hx : ∃ xs : List α, xs.length = len ∧ (∀ x ∈ xs, R x) ∧ ∀ i (hi : i < xs.length), ∀ j u, (f xs[i])[j]? = some u → w.cell? (a.add (i * sz + j)) = some u := by
    clear hlc
    induction len with
    | zero => exact ⟨[], rfl, by simp, fun i hi => by simp at hi⟩
    | succ n ih =>
      obtain ⟨xs, h1, h2, h3⟩ := ih (fun i hi => h i (by omega))
      obtain ⟨x, hr, hc⟩ := h n (by omega)
      refine ⟨xs ++ [x], by simp [h1], ?_, ?_⟩
      · intro y hy
        rcases List.mem_append.1 hy with hy | hy
        · exact h2 y hy
        · simp at hy; subst hy; exact hr
      · intro i hi j u hu
        simp at hi
        by_cases hlt : i < xs.length
        · rw [List.getElem_append_left hlt] at hu
          exact h3 i hlt j u hu
        · have e : i = xs.length := by omega
          subst e
          rw [List.getElem_append_right (Nat.le_refl _)] at hu
          simp at hu
          rw [h1]
          exact hc j u hu
  obtain ⟨xs, rfl, h2, h3⟩ := hx
  refine ⟨xs, ⟨flat_len hf xs, ?_⟩, h2⟩
  rcases Nat.eq_zero_or_pos xs.length with h0 | h0
  · exact .inl ⟨⟨some a, cap, by rw [h0]⟩, h0⟩
  · obtain ⟨u, hu⟩ : ∃ u, (f xs[0])[0]? = some u := ⟨(f xs[0])[0]'(by rw [hf]; omega), List.getElem?_eq_getElem _⟩
    have c0 := h3 0 h0 0 u hu
    have hs : a.spot = none := by simpa [Addr.add] using addr_none c0
    obtain ⟨b, off, sp⟩ := a
    simp at hs; subst hs
    refine .inr ⟨b, off, cap, rfl, (by have h := World.block_lt_of_cell? _ _ c0; rw [Addr.add_lit] at h; exact h), hlc, by simpa [maxLen] using hcm, fun j u hj => ?_⟩
    have hjl : j < xs.length * sz := by have := (List.getElem?_eq_some_iff.1 hj).1; rwa [flat_len hf] at this
    have hd : j / sz < xs.length := Nat.div_lt_of_lt_mul (by rwa [Nat.mul_comm])
    have e : j = j / sz * sz + j % sz := by rw [Nat.mul_comm]; exact (Nat.div_add_mod j sz).symm
    rw [e, flat_get hf xs _ _ hd (Nat.mod_lt _ hs0)] at hj
    have := h3 _ hd _ u hj
    rw [Addr.add_lit, ← e] at this
    exact this
end
section
variable {H : Type} {enc : TypeId × Value → H} {W : World} {base : Nat} {spare : Nat → Bool} {held : Bool} {r : Reach} {b0 : Nat}
theorem cellBool_of {n : Nat} {t : TypeId} (ht : Try.prog.underlying t = some .bool) {v : Value} {y : DataW H × List MemPlace} (h : DataW.trod enc Try.prog W base spare held n t [v] = some y) : ∃ b, v = .bool b := by
  obtain ⟨b, hb, _⟩ := DataW.trod_bool ht h
  exact ⟨b, by simpa using hb⟩
theorem cellE2S_of {n : Nat} {t e : TypeId} {f0 f1 : Field} {v : Value} {y : DataW H × List MemPlace} (ht : Try.prog.underlying t = some (.slice e)) (he : Try.prog.underlying e = some (.struct #[f0, f1])) (h0 : Try.prog.underlying f0.type = some (.int .i64)) (h1 : Try.prog.underlying f1.type = some (.int .i64))
    (hone : oneCellFields Try.prog #[f0, f1] = true) (hC : Try.prog.cellsOf e = 2) (h : DataW.trod enc Try.prog W base spare held n t [v] = some y) : IsE2S W v := by
  rcases open_slice_fields ht he hone hC h with ⟨hv, _⟩ | ⟨a, len, cap, m, D, Pl, hv, _, hlc, hcm, hm, _, hel⟩
  · simp at hv; subst hv
    exact ⟨[], ⟨rfl, .inl ⟨⟨_, _, rfl⟩, rfl⟩⟩, fun z hz => by cases hz⟩
  · simp at hv; subst hv
    refine rdE_of (f := E2.cs) (R := fun x => I64 x.a ∧ I64 x.b) E2.len (by omega) hlc hcm (fun i hi => ?_)
    obtain ⟨ys, n', _, _, _, hf⟩ := hel i (by rw [hm]; split <;> omega)
    obtain ⟨u0, y0, c0, _, t0⟩ := hf 0 f0 rfl
    obtain ⟨u1, y1, c1, _, t1⟩ := hf 1 f1 rfl
    obtain ⟨z0, rfl, r0, r0'⟩ := cellInt_of h0 t0
    obtain ⟨z1, rfl, r1, r1'⟩ := cellInt_of h1 t1
    refine ⟨⟨z0, z1⟩, ⟨⟨r0, r0'⟩, r1, r1'⟩, fun j u hu => ?_⟩
    match j, hu with
    | 0, hu => simp [E2.cs] at hu; subst hu; exact c0
    | 1, hu => simp [E2.cs] at hu; subst hu; exact c1
theorem cellE3S_of {n : Nat} {t e : TypeId} {f0 f1 f2 : Field} {v : Value} {y : DataW H × List MemPlace} (ht : Try.prog.underlying t = some (.slice e)) (he : Try.prog.underlying e = some (.struct #[f0, f1, f2])) (h0 : Try.prog.underlying f0.type = some (.int .i64)) (h1 : Try.prog.underlying f1.type = some (.int .i64)) (h2 : Try.prog.underlying f2.type = some (.int .i64))
    (hone : oneCellFields Try.prog #[f0, f1, f2] = true) (hC : Try.prog.cellsOf e = 3) (h : DataW.trod enc Try.prog W base spare held n t [v] = some y) : IsE3S W v := by
  rcases open_slice_fields ht he hone hC h with ⟨hv, _⟩ | ⟨a, len, cap, m, D, Pl, hv, _, hlc, hcm, hm, _, hel⟩
  · simp at hv; subst hv
    exact ⟨[], ⟨rfl, .inl ⟨⟨_, _, rfl⟩, rfl⟩⟩, fun z hz => by cases hz⟩
  · simp at hv; subst hv
    refine rdE_of (f := E3.cs) (R := fun x => I64 x.a ∧ I64 x.b ∧ I64 x.c) E3.len (by omega) hlc hcm (fun i hi => ?_)
    obtain ⟨ys, n', _, _, _, hf⟩ := hel i (by rw [hm]; split <;> omega)
    obtain ⟨u0, y0, c0, _, t0⟩ := hf 0 f0 rfl
    obtain ⟨u1, y1, c1, _, t1⟩ := hf 1 f1 rfl
    obtain ⟨u2, y2, c2, _, t2⟩ := hf 2 f2 rfl
    obtain ⟨z0, rfl, r0, r0'⟩ := cellInt_of h0 t0
    obtain ⟨z1, rfl, r1, r1'⟩ := cellInt_of h1 t1
    obtain ⟨z2, rfl, r2, r2'⟩ := cellInt_of h2 t2
    refine ⟨⟨z0, z1, z2⟩, ⟨⟨r0, r0'⟩, ⟨r1, r1'⟩, r2, r2'⟩, fun j u hu => ?_⟩
    match j, hu with
    | 0, hu => simp [E3.cs] at hu; subst hu; exact c0
    | 1, hu => simp [E3.cs] at hu; subst hu; exact c1
    | 2, hu => simp [E3.cs] at hu; subst hu; exact c2
theorem cellEWS_of {n : Nat} {t e : TypeId} {f0 f1 f2 : Field} {v : Value} {y : DataW H × List MemPlace} (ht : Try.prog.underlying t = some (.slice e)) (he : Try.prog.underlying e = some (.struct #[f0, f1, f2])) (h0 : Try.prog.underlying f0.type = some (.int .i64)) (h1 : Try.prog.underlying f1.type = some (.int .i64)) (h2 : Try.prog.underlying f2.type = some .bool)
    (hone : oneCellFields Try.prog #[f0, f1, f2] = true) (hC : Try.prog.cellsOf e = 3) (h : DataW.trod enc Try.prog W base spare held n t [v] = some y) : IsEWS W v := by
  rcases open_slice_fields ht he hone hC h with ⟨hv, _⟩ | ⟨a, len, cap, m, D, Pl, hv, _, hlc, hcm, hm, _, hel⟩
  · simp at hv; subst hv
    exact ⟨[], ⟨rfl, .inl ⟨⟨_, _, rfl⟩, rfl⟩⟩, fun z hz => by cases hz⟩
  · simp at hv; subst hv
    refine rdE_of (f := EW.cs) (R := fun x => I64 x.a ∧ I64 x.b) EW.len (by omega) hlc hcm (fun i hi => ?_)
    obtain ⟨ys, n', _, _, _, hf⟩ := hel i (by rw [hm]; split <;> omega)
    obtain ⟨u0, y0, c0, _, t0⟩ := hf 0 f0 rfl
    obtain ⟨u1, y1, c1, _, t1⟩ := hf 1 f1 rfl
    obtain ⟨u2, y2, c2, _, t2⟩ := hf 2 f2 rfl
    obtain ⟨z0, rfl, r0, r0'⟩ := cellInt_of h0 t0
    obtain ⟨z1, rfl, r1, r1'⟩ := cellInt_of h1 t1
    obtain ⟨z2, rfl⟩ := cellBool_of h2 t2
    refine ⟨⟨z0, z1, z2⟩, ⟨⟨r0, r0'⟩, r1, r1'⟩, fun j u hu => ?_⟩
    match j, hu with
    | 0, hu => simp [EW.cs] at hu; subst hu; exact c0
    | 1, hu => simp [EW.cs] at hu; subst hu; exact c1
    | 2, hu => simp [EW.cs] at hu; subst hu; exact c2
theorem open_agg1 {t : TypeId} {f0 : Field} {v : Value} {d : DataW H} {p : List MemPlace} (hs : Try.prog.underlying t = some (.struct #[f0])) (hone : oneCellFields Try.prog #[f0] = true) (hC : Try.prog.cellsOf t = 1)
    (hv : Value.okWide Try.prog W r b0 t v) (h : DataW.Trod enc Try.prog W base spare held t v d p) : ∃ (v0 : Value) (y0 : DataW H × List MemPlace) (n : Nat), v = .agg #[v0] ∧ DataW.trod enc Try.prog W base spare held n f0.type [v0] = some y0 := by
  obtain ⟨cs, rfl, hsz⟩ := okWide_struct hs hv
  obtain ⟨l⟩ := cs
  match l, hsz.trans hC with
  | [c0], _ =>
    obtain ⟨fuel, hf⟩ := h
    obtain ⟨y0, n, hx, _, h0⟩ := trod_struct1 hs hf
    obtain ⟨o0, k0⟩ := hone_of hone 0 f0 rfl
    exact ⟨c0, y0, n, rfl, by simpa [Value.cells, o0, k0] using h0⟩
theorem open_agg5 {t : TypeId} {f0 f1 f2 f3 f4 : Field} {v : Value} {d : DataW H} {p : List MemPlace} (hs : Try.prog.underlying t = some (.struct #[f0, f1, f2, f3, f4])) (hone : oneCellFields Try.prog #[f0, f1, f2, f3, f4] = true) (hC : Try.prog.cellsOf t = 5)
    (hv : Value.okWide Try.prog W r b0 t v) (h : DataW.Trod enc Try.prog W base spare held t v d p) :
    ∃ (v0 v1 v2 v3 v4 : Value) (y0 y1 y2 y3 y4 : DataW H × List MemPlace) (n : Nat), v = .agg #[v0, v1, v2, v3, v4] ∧
      DataW.trod enc Try.prog W base spare held n f0.type [v0] = some y0 ∧ DataW.trod enc Try.prog W base spare held n f1.type [v1] = some y1 ∧ DataW.trod enc Try.prog W base spare held n f2.type [v2] = some y2 ∧ DataW.trod enc Try.prog W base spare held n f3.type [v3] = some y3 ∧ DataW.trod enc Try.prog W base spare held n f4.type [v4] = some y4 := by
  obtain ⟨cs, rfl, hsz⟩ := okWide_struct hs hv
  obtain ⟨l⟩ := cs
  match l, hsz.trans hC with
  | [c0, c1, c2, c3, c4], _ =>
    obtain ⟨fuel, hf⟩ := h
    obtain ⟨xs, n, _, hx, _, hlen, hg⟩ := DataW.trod_struct hs hf
    obtain ⟨o0, k0⟩ := hone_of hone 0 f0 rfl
    obtain ⟨o1, k1⟩ := hone_of hone 1 f1 rfl
    obtain ⟨o2, k2⟩ := hone_of hone 2 f2 rfl
    obtain ⟨o3, k3⟩ := hone_of hone 3 f3 rfl
    obtain ⟨o4, k4⟩ := hone_of hone 4 f4 rfl
    match xs, hlen with
    | [y0, y1, y2, y3, y4], _ =>
      exact ⟨c0, c1, c2, c3, c4, y0, y1, y2, y3, y4, n, rfl, by simpa [Value.cells, o0, k0] using hg 0 f0 rfl, by simpa [Value.cells, o1, k1] using hg 1 f1 rfl, by simpa [Value.cells, o2, k2] using hg 2 f2 rfl, by simpa [Value.cells, o3, k3] using hg 3 f3 rfl, by simpa [Value.cells, o4, k4] using hg 4 f4 rfl⟩

def IsIntSA (w : World) (v : Value) : Prop := ∃ zs : List Int, RdI w v zs ∧ InI64 zs
def IsTermS (w : World) (v : Value) : Prop := IsE2S w v
def IsRewriteS (w : World) (v : Value) : Prop := IsE3S w v
def IsPauli (v : Value) : Prop := ∃ x : E3, v = .agg #[.int .i64 x.a, .int .i64 x.b, .int .i64 x.c] ∧ I64 x.a ∧ I64 x.b ∧ I64 x.c
def IsLinear (w : World) (v : Value) : Prop := ∃ (d : List Int) (v0 : Value), v = .agg #[v0] ∧ RdI w v0 d ∧ InI64 d
def IsCircuit (w : World) (v : Value) : Prop := ∃ (d : Circ) (v0 : Value), v = .agg #[.int .i64 d.n, v0] ∧ RdE w v0 E3.cs 3 d.gs ∧ (I64 d.n ∧ In3 d.gs)
def IsTableau (w : World) (v : Value) : Prop := ∃ (d : Tab) (v0 v1 : Value), v = .agg #[.int .i64 d.n, v0, v1] ∧ RdE w v0 E3.cs 3 d.xs ∧ RdE w v1 E3.cs 3 d.zs ∧ (I64 d.n ∧ In3 d.xs ∧ In3 d.zs)
def IsPhasePoly (w : World) (v : Value) : Prop := ∃ (d : PP) (v0 v1 : Value), v = .agg #[.int .i64 d.n, .int .i64 d.ph, v0, v1] ∧ RdE w v0 E2.cs 2 d.ts ∧ RdI w v1 d.out ∧ (I64 d.n ∧ I64 d.ph ∧ In2 d.ts ∧ InI64 d.out)
def IsDiagram (w : World) (v : Value) : Prop := ∃ (d : Dia) (v0 v1 : Value), v = .agg #[.int .i64 d.n, v0, v1, .int .i64 d.turn, .int .i64 d.root] ∧ RdE w v0 E2.cs 2 d.ns ∧ RdE w v1 EW.cs 3 d.ws ∧ (I64 d.n ∧ I64 d.turn ∧ I64 d.root ∧ In2 d.ns ∧ InW d.ws)
theorem isIntS_of {v : Value} {d : DataW H} {p : List MemPlace} (hv : Value.okWide Try.prog W r b0 52 v) (h : DataW.Trod enc Try.prog W base spare held 52 v d p) : IsIntS W v := by
  obtain ⟨fuel, hf⟩ := h
  obtain ⟨cs, hcs, hl⟩ : ∃ c, v.cells.toList = [c] ∧ v = c := by
    obtain ⟨a, n, c, rfl⟩ := okWide_slice Try.underlying52 hv
    exact ⟨_, rfl, rfl⟩
  rw [hcs] at hf; subst hl
  exact cellIntS_of Try.underlying52 Try.underlying3 (by kernel_rfl) hf
theorem isPauli_of {v : Value} {d : DataW H} {p : List MemPlace} (hv : Value.okWide Try.prog W r b0 64 v) (h : DataW.Trod enc Try.prog W base spare held 64 v d p) : IsPauli v := by
  obtain ⟨v0, v1, v2, y0, y1, y2, n, rfl, rfl, rfl, h0, h1, h2⟩ := open_agg3 Try.underlying64 (by kernel_rfl) (by kernel_rfl) hv h
  obtain ⟨z0, rfl, r0⟩ := cellInt_of Try.underlying3 h0; obtain ⟨z1, rfl, r1⟩ := cellInt_of Try.underlying3 h1; obtain ⟨z2, rfl, r2⟩ := cellInt_of Try.underlying3 h2
  exact ⟨⟨z0, z1, z2⟩, rfl, r0, r1, r2⟩
theorem isTableau_of {v : Value} {d : DataW H} {p : List MemPlace} (hv : Value.okWide Try.prog W r b0 24 v) (h : DataW.Trod enc Try.prog W base spare held 24 v d p) : IsTableau W v := by
  obtain ⟨v0, v1, v2, y0, y1, y2, n, rfl, rfl, rfl, h0, h1, h2⟩ := open_agg3 Try.underlying24 (by kernel_rfl) (by kernel_rfl) hv h
  obtain ⟨z0, rfl, r0⟩ := cellInt_of Try.underlying3 h0
  obtain ⟨gs, hg, hr⟩ := cellE3S_of Try.underlying22 Try.underlying64 Try.underlying3 Try.underlying3 Try.underlying3 (by kernel_rfl) (by kernel_rfl) h1
  obtain ⟨gs2, hg2, hr2⟩ := cellE3S_of Try.underlying22 Try.underlying64 Try.underlying3 Try.underlying3 Try.underlying3 (by kernel_rfl) (by kernel_rfl) h2
  exact ⟨⟨z0, gs, gs2⟩, v1, v2, rfl, hg, hg2, r0, hr, hr2⟩
end
end Go.Proofs.Ytjdffjnennodaaa
