/- Codes and keys of tableaux, plain; the key of any tableau of one or two qubits. -/
import Derived.Test.YtjdffjnennodaaaZ38Kw2
import Derived.Test.YtjdffjnennodaaaZ30M
import Derived.Test.YtjdffjnennodaaaZ07M
import Derived.Test.YtjdffjnennodaaaZ28M
import Derived.Test.YtjdffjnennodaaaZ31Tab2
import Derived.Test.YtjdffjnennodaaaZ01M
namespace Go.Proofs.Ytjdffjnennodaaa
set_option linter.unusedSimpArgs false
set_option linter.unusedVariables false
set_option linter.unnecessarySimpa false
set_option maxRecDepth 200000
open Go.ChangeShapes Go.WideShapes Go.ChangeAt Go.RowKit Go.Maps

def cP (p : PN) : Nat := 8 * p.p + 4 * p.x + p.z
def gd (L : List PN) (i : Nat) : PN := L.getD i ⟨0, 0, 0⟩
def codeT (n : Nat) (x : TT) : Nat := if n = 1 then 32 * cP (gd x.1 0) + cP (gd x.2 0) else 32 * (32 * (32 * cP (gd x.1 0) + cP (gd x.2 0)) + cP (gd x.1 1)) + cP (gd x.2 1)
def keyV (n : Nat) (x : TT) : Value := if n = 1 then kv (gd x.1 0) (gd x.2 0) ⟨0, 0, 0⟩ ⟨0, 0, 0⟩ else kv (gd x.1 0) (gd x.1 1) (gd x.2 0) (gd x.2 1)
/-- An image of a tableau of one or two qubits. -/
structure Im4 (a : PN) : Prop where
  p : a.p = 0 ∨ a.p = 2
  x : a.x < 4
  z : a.z < 4
theorem Im4.code {p : PN} (h : Im4 p) : cP p < 32 := by
  have := h.p; have := h.x; have := h.z; unfold cP; omega
theorem Im4.inj {p q : PN} (hp : Im4 p) (hq : Im4 q) (h : cP p = cP q) : p = q := by
  have := hp.p; have := hp.x; have := hp.z; have := hq.p; have := hq.x; have := hq.z
  unfold cP at h
  exact PN.eq_of (by omega) (by omega) (by omega)
theorem kv_inj {a b c d a2 b2 c2 d2 : PN} (h : kv a b c d = kv a2 b2 c2 d2) : a = a2 ∧ b = b2 ∧ c = c2 ∧ d = d2 := by
  have h2 := congrArg Value.cells h
  simp only [Value.cells, Array.mk.injEq, List.cons.injEq, Value.int.injEq, true_and, and_true, Int.ofNat_inj, Int.natCast_inj] at h2
  obtain ⟨h0, h1, h2, h3, h4, h5, h6, h7, h8, h9, h10, h11⟩ := h2
  exact ⟨PN.eq_of h0 h1 h2, PN.eq_of h3 h4 h5, PN.eq_of h6 h7 h8, PN.eq_of h9 h10 h11⟩
section
variable {n : Nat} {x y : TT}
theorem sym_im (h2 : n ≤ 2) (h : SymT n x) (i : Nat) : Im4 (gd x.1 i) ∧ Im4 (gd x.2 i) := by
  have hp : 2 ^ n ≤ 4 := Nat.pow_le_pow_right (n := 2) (by decide) h2
  have a := h.ltx.ok.get i; have b := h.ltz.ok.get i
  have c := h.ltx.get i; have d := h.ltz.get i
  have e := h.evx i; have f := h.evz i
  have a1 := a.p; have b1 := b.p
  unfold gd
  exact ⟨⟨by omega, by omega, by omega⟩, ⟨by omega, by omega, by omega⟩⟩
theorem list_1 {L : List PN} (h : L.length = 1) : L = [gd L 0] := by
  match L, h with
  | [a], _ => rfl
theorem list_2 {L : List PN} (h : L.length = 2) : L = [gd L 0, gd L 1] := by
  match L, h with
  | [a, b], _ => rfl
theorem code_lt (h2 : n ≤ 2) (h : SymT n x) : codeT n x < 1048576 := by
  have a := (sym_im h2 h 0).1.code; have b := (sym_im h2 h 0).2.code; have c := (sym_im h2 h 1).1.code; have d := (sym_im h2 h 1).2.code
  unfold codeT; split <;> omega
theorem code_inj (h1 : 1 ≤ n) (h2 : n ≤ 2) (hx : SymT n x) (hy : SymT n y) (h : codeT n x = codeT n y) : x = y := by
  have a := (sym_im h2 hx 0).1; have b := (sym_im h2 hx 0).2; have c := (sym_im h2 hx 1).1; have d := (sym_im h2 hx 1).2
  have a' := (sym_im h2 hy 0).1; have b' := (sym_im h2 hy 0).2; have c' := (sym_im h2 hy 1).1; have d' := (sym_im h2 hy 1).2
  have i1 := a.code; have i2 := b.code; have i3 := c.code; have i4 := d.code; have j1 := a'.code; have j2 := b'.code; have j3 := c'.code; have j4 := d'.code
  obtain ⟨X, Z⟩ := x
  obtain ⟨X', Z'⟩ := y
  have lx := hx.lx; have lz := hx.lz; have lx' := hy.lx; have lz' := hy.lz
  dsimp only at *
  unfold codeT at h
  rcases (show n = 1 ∨ n = 2 by omega) with rfl | rfl
  · rw [if_pos rfl, if_pos rfl] at h
    dsimp only at h
    rw [list_1 lx, list_1 lz, list_1 lx', list_1 lz', a.inj a' (by omega), b.inj b' (by omega)]
  · rw [if_neg (by decide), if_neg (by decide)] at h
    dsimp only at h
    rw [list_2 lx, list_2 lz, list_2 lx', list_2 lz', a.inj a' (by omega), b.inj b' (by omega), c.inj c' (by omega), d.inj d' (by omega)]
theorem key_inj (h1 : 1 ≤ n) (h2 : n ≤ 2) (hx : SymT n x) (hy : SymT n y) (h : keyV n x = keyV n y) : x = y := by
  obtain ⟨X, Z⟩ := x
  obtain ⟨X', Z'⟩ := y
  have lx := hx.lx; have lz := hx.lz; have lx' := hy.lx; have lz' := hy.lz
  dsimp only at *
  unfold keyV at h
  rcases (show n = 1 ∨ n = 2 by omega) with rfl | rfl
  · rw [if_pos rfl, if_pos rfl] at h
    obtain ⟨e1, e2, _, _⟩ := kv_inj h
    dsimp only at e1 e2
    rw [list_1 lx, list_1 lz, list_1 lx', list_1 lz', e1, e2]
  · rw [if_neg (by decide), if_neg (by decide)] at h
    obtain ⟨e1, e2, e3, e4⟩ := kv_inj h
    dsimp only at e1 e2 e3 e4
    rw [list_2 lx, list_2 lz, list_2 lx', list_2 lz', e1, e2, e3, e4]
theorem key_lit (h2 : n ≤ 2) (h : SymT n x) : ∃ l, keyOf Try.prog 76 (keyV n x) = some l := by
  have ok : ∀ {p : PN}, Im4 p → PNok p := fun h => ⟨by have := h.p; omega, by have := h.x; omega, by have := h.z; omega⟩
  have a := ok (sym_im h2 h 0).1; have b := ok (sym_im h2 h 0).2; have c := ok (sym_im h2 h 1).1; have d := ok (sym_im h2 h 1).2
  have z : PNok ⟨0, 0, 0⟩ := ⟨by decide, by decide, by decide⟩
  unfold keyV
  split
  · exact key_some _ _ _ _ a b z z
  · exact key_some _ _ _ _ a c b d
theorem impl_keyOf_any (h1 : 1 ≤ n) (h2 : n ≤ 2) (hx : SymT n x) (v0 v1 : Value) (w : World) (r0 : RdE w v0 E3.cs 3 (pes x.1)) (r1 : RdE w v1 E3.cs 3 (pes x.2)) :
    Calls Try.prog 43 #[.agg #[.int .i64 (n : Int), v0, v1]] w fun e w' => e = .returned (keyV n x) ∧ Below w.heap.size w w' := by
  obtain ⟨X, Z⟩ := x
  have lx := hx.lx; have lz := hx.lz
  dsimp only at *
  rcases (show n = 1 ∨ n = 2 by omega) with rfl | rfl
  · rw [list_1 lx] at r0
    rw [list_1 lz] at r1
    have := impl_keyOf_1 (gd X 0) (gd Z 0) v0 v1 w r0 r1
    unfold keyV
    rw [if_pos rfl]
    exact this
  · rw [list_2 lx] at r0
    rw [list_2 lz] at r1
    have := impl_keyOf_2 (gd X 0) (gd X 1) (gd Z 0) (gd Z 1) v0 v1 w r0 r1
    unfold keyV
    rw [if_neg (by decide)]
    exact this
/-- The queue of the search. -/
abbrev InvT (n N j : Nat) (Q : List (TT × List Nat)) : Prop := InvJ (stT n) (idT2 n) (KK n) N j Q
variable {N j : Nat} {Q : List (TT × List Nat)}
theorem InvT.sym (h1 : 1 ≤ n) (h2 : n ≤ 2) (h : InvT n N j Q) : ∀ p ∈ Q, SymT n p.1 := fun p hp => by
  have := h.mw p hp
  rw [← this.ev]; exact ev_sym h1 h2 this.vw
theorem InvT.few (h1 : 1 ≤ n) (h2 : n ≤ 2) (h : InvT n N j Q) : Q.length ≤ 1048576 := by
  have hK : KK n ≤ 8 := Nat.le_trans (KK_le n) (by decide)
  have nd : (Q.map fun p => codeT n p.1).Nodup := by
    rw [List.Nodup, List.pairwise_map]
    refine h.sorted.imp_of_mem fun {p q} hp hq hlt he => ?_
    have hs := h.sym h1 h2
    have e := code_inj h1 h2 (hs p hp) (hs q hq) he
    have hm := h.mw q hq
    rw [← e] at hm
    have := MinW.inj hK (h.mw p hp) hm
    rw [this] at hlt; omega
  have hp := pigeon 1048576 _ nd (fun c hc => by
    obtain ⟨p, hp, rfl⟩ := List.mem_map.1 hc
    exact code_lt h2 (h.sym h1 h2 p hp))
  simpa using hp
theorem InvT.key_mem (h1 : 1 ≤ n) (h2 : n ≤ 2) (h : InvT n N j Q) (hx : SymT n x) : keyV n x ∈ Q.map (fun p => keyV n p.1) ↔ ∃ q ∈ Q, q.1 = x := by
  rw [List.mem_map]
  constructor
  · rintro ⟨q, hq, he⟩; exact ⟨q, hq, key_inj h1 h2 (h.sym h1 h2 q hq) hx he⟩
  · rintro ⟨q, hq, he⟩; exact ⟨q, hq, by rw [he]⟩
end
end Go.Proofs.Ytjdffjnennodaaa
namespace Go.Proofs.Ytjdffjnennodaaa
set_option linter.unusedSimpArgs false
set_option linter.unusedVariables false
set_option linter.unnecessarySimpa false
set_option maxRecDepth 200000
open Go.ChangeShapes Go.WideShapes Go.ChangeAt Go.RowKit Go.Maps

abbrev LWT (n : Nat) (t : TT) (r : Option (List Nat)) : Prop := LW (stT n) (idT2 n) (KK n) t r
theorem K8 (n : Nat) : KK n ≤ 8 := Nat.le_trans (KK_le n) (by decide)
/-- The queue in the search: what lies behind the level, the level, the next one. -/
structure PlQ (n : Nat) (t : TT) (d N i j : Nat) (pre P P2 : List (TT × List Nat)) : Prop where
  inv : InvT n (N + i) j (pre ++ P ++ P2)
  preLen : pre.length = N
  short : ∀ p ∈ pre, p.1 ≠ t
  here : ∀ p ∈ P, p.2.length = d
  nextL : ∀ p ∈ P2, p.2.length = d + 1
  past : ∀ p ∈ P.take i, p.1 ≠ t
section
variable {n d N i j : Nat} {t x : TT} {w : List Nat} {pre P P2 : List (TT × List Nat)}
theorem PlQ.start (n : Nat) (t : TT) : PlQ n t 0 0 0 0 [] [(idT2 n, [])] [] :=
  ⟨InvJ.start, rfl, by simp, by simp, by simp, by simp⟩
theorem PlQ.node (h : PlQ n t d N i j pre P P2) (hi : P[i]? = some (x, w)) : (pre ++ P ++ P2)[N + i]? = some (x, w) := by
  have hl : i < P.length := (List.getElem?_eq_some_iff.1 hi).1
  have := h.preLen
  rw [List.append_assoc, List.getElem?_append_right (by omega), this, Nat.add_sub_cancel_left, List.getElem?_append_left hl]; exact hi
theorem PlQ.old (h : PlQ n t d N i j pre P P2) (hi : P[i]? = some (x, w)) (hin : ∃ q ∈ pre ++ P ++ P2, q.1 = stT n x j) : PlQ n t d N i (j + 1) pre P P2 :=
  ⟨h.inv.old (h.node hi) hin, h.preLen, h.short, h.here, h.nextL, h.past⟩
theorem PlQ.new (h : PlQ n t d N i j pre P P2) (hi : P[i]? = some (x, w)) (hj : j < KK n) (hin : ¬ ∃ q ∈ pre ++ P ++ P2, q.1 = stT n x j) : PlQ n t d N i (j + 1) pre P (P2 ++ [(stT n x j, w ++ [j])]) := by
  refine ⟨?_, h.preLen, h.short, h.here, fun p hp => ?_, h.past⟩
  · rw [← List.append_assoc]; exact h.inv.new (K8 n) (h.node hi) hj hin
  · rcases List.mem_append.1 hp with hp | hp
    · exact h.nextL p hp
    · have e : p = (stT n x j, w ++ [j]) := by simpa using hp
      subst e
      have := h.here (x, w) (List.mem_of_getElem? hi)
      simp at this ⊢; omega
theorem PlQ.step (h : PlQ n t d N i (KK n) pre P P2) (hi : P[i]? = some (x, w)) (hx : x ≠ t) : PlQ n t d N (i + 1) 0 pre P P2 := by
  refine ⟨InvJ.next h.inv, h.preLen, h.short, h.here, h.nextL, fun p hp => ?_⟩
  rw [List.take_add_one, hi] at hp
  rcases List.mem_append.1 hp with hp | hp
  · exact h.past p hp
  · have e : p = (x, w) := by simpa using hp
    subst e; exact hx
theorem PlQ.turn (h : PlQ n t d N P.length 0 pre P P2) : PlQ n t (d + 1) (N + P.length) 0 0 (pre ++ P) P2 [] := by
  refine ⟨by simpa using h.inv, by simp [h.preLen], fun p hp => ?_, h.nextL, by simp, by simp⟩
  rcases List.mem_append.1 hp with hp | hp
  · exact h.short p hp
  · exact h.past p (by rw [List.take_length]; exact hp)
theorem PlQ.found (h : PlQ n t d N i j pre P P2) (hi : P[i]? = some (t, w)) (hd : d ≤ 12) : LWT n t (some w) := by
  have hm := List.mem_of_getElem? hi
  exact LW.found (h.inv.mw (t, w) (by simp [hm])) (by have := h.here _ hm; simp at this; omega)
theorem PlQ.none_ (h : PlQ n t 13 N 0 0 pre P []) : LWT n t none := by
  have hi := h.inv
  rw [List.append_nil] at hi
  refine LW.none_prog (K8 n) hi (fun k p hk hN => ?_) (fun k p hk hN => ?_)
  · rw [List.getElem?_append_right (by rw [h.preLen]; omega)] at hk
    exact Nat.le_of_eq (h.here p (List.mem_of_getElem? hk)).symm
  · rw [List.getElem?_append_left (by rw [h.preLen]; omega)] at hk
    exact h.short p (List.mem_of_getElem? hk)
theorem PlQ.sym (h1 : 1 ≤ n) (h2 : n ≤ 2) (h : PlQ n t d N i j pre P P2) : ∀ p ∈ P, SymT n p.1 := fun p hp => InvT.sym h1 h2 h.inv p (by simp [hp])
theorem PlQ.len (h1 : 1 ≤ n) (h2 : n ≤ 2) (h : PlQ n t d N i j pre P P2) : pre.length + P.length + P2.length ≤ 1048576 := by
  have := InvT.few h1 h2 h.inv
  simp only [List.length_append] at this
  exact this
end
def gls (n : Nat) : List E3 := (LL n).map gte
theorem gls_len (n : Nat) : (gls n).length = KK n := by simp [gls, KK]
def kys (n : Nat) (Q : List (TT × List Nat)) : List Value := (Q.map fun p => keyV n p.1).reverse
theorem kys_add (n : Nat) (Q : List (TT × List Nat)) (p : TT × List Nat) : kys n (Q ++ [p]) = keyV n p.1 :: kys n Q := by simp [kys]
/-- The memory in the search. -/
structure KS (n : Nat) (W wr : World) (v0 v1 vL : Value) (B : Nat) (Q : List (TT × List Nat)) (vV vX : Value) (M M2 : List NodeV) (P P2 : List (TT × List Nat)) : Prop where
  bel : Below W.heap.size W wr
  t1 : Bw wr W.heap.size [.int .i64 (n : Int), v0, v1]
  lts : wr.ownsRow (W.heap.size + 1) 57 3 vL (KK n) ((gls n).flatMap E3.cs)
  seen : Seen wr B Q.length (kys n Q)
  off : W.heap.size < B
  lev : wr.ownsRow (W.heap.size + 1) 73 4 vV P.length (M.flatMap (NodeV.cs n))
  nds : Nds wr n P M
  nxt : wr.ownsRow (W.heap.size + 1) 73 4 vX P2.length (M2.flatMap (NodeV.cs n))
  nds2 : Nds wr n P2 M2
  ap : ∀ b, vV.ownBlock = some b → vX.ownBlock ≠ some b
section
variable {n B : Nat} {W wr w' : World} {v0 v1 vL vV vX : Value} {Q P P2 : List (TT × List Nat)} {M M2 : List NodeV}
theorem KS.call (h : KS n W wr v0 v1 vL B Q vV vX M M2 P P2) (hb : Below wr.heap.size wr w') : KS n W w' v0 v1 vL B Q vV vX M M2 P P2 :=
  ⟨Below.trans h.bel (hb.mono h.bel.size), h.t1.call hb, own_below h.lts hb rfl, h.seen.call hb, h.off, own_below h.lev hb rfl, h.nds.call hb, own_below h.nxt hb rfl, h.nds2.call hb, h.ap⟩
theorem no_own {w : World} {base sz k : Nat} {e e2 : TypeId} {v u : Value} {xs : List Value} (h : ∀ b, u.ownBlock = some b → ∀ cur, w.heap[b]? ≠ some (.cells cur e)) (ho : w.ownsRow base e sz v k xs) : ∀ b, u.ownBlock = some b → v.ownBlock ≠ some b := by
  intro b hb hv
  rcases ho.2 with ⟨rfl, _⟩ | ⟨g, cap, c2, rfl, _, hg, _⟩
  · cases hv
  · have e3 : g = b := by injection hv
    subst e3
    exact h g hb _ hg
theorem KS.put (h : KS n W wr v0 v1 vL B Q vV vX M M2 P P2) {p : TT × List Nat} (hs : Seen w' B (Q.length + 1) (keyV n p.1 :: kys n Q)) (hg : wr.grownBy w' (some B)) : KS n W w' v0 v1 vL B (Q ++ [p]) vV vX M M2 P P2 := by
  have hm := map_no_cells h.seen
  refine ⟨h.bel.grown hg h.bel.size (fun b hb => ?_), h.t1.kept hg (fun e => ?_), own_kept h.lts hg (fun b hb cur => (hm b hb cur).2), ?_, h.off, ?_, h.nds.kept hg hm, ?_, h.nds2.kept hg hm, h.ap⟩
  · have e : B = b := by injection hb
    have := h.off; omega
  · have e2 : W.heap.size = B := by injection e
    have := h.off; omega
  · rw [kys_add, List.length_append]; exact hs
  all_goals
    refine own_kept ?_ hg (fun b hb cur hc => ?_)
    rotate_left
    · obtain ⟨D, ⟨es, clock, hB, _⟩, _⟩ := h.seen
      have e2 : B = b := by injection hb
      subst e2
      rw [hB] at hc; cases hc
  · exact h.lev
  · exact h.nxt
theorem KS.app (h : KS n W wr v0 v1 vL B Q vV vX M M2 P P2) {p : TT × List Nat} {m : NodeV} (hn : Nd wr n p m) {g cap : Nat} (ho : w'.ownsRow (W.heap.size + 1) 73 4 (.slice (some ⟨g, 0, none⟩) (P2.length + 1) cap) (P2.length + 1) (M2.flatMap (NodeV.cs n) ++ NodeV.cs n m)) (hg : wr.grownBy w' vX.ownBlock) (hb : vX.ownBlock = some g ∨ g = wr.heap.size) :
    KS n W w' v0 v1 vL B Q vV (.slice (some ⟨g, 0, none⟩) (P2.length + 1) cap) M (M2 ++ [m]) P (P2 ++ [p]) := by
  have hm := node_no_cells h.nxt
  have hlt := h.nxt.lt
  have hL := h.lev.lt
  refine ⟨h.bel.grown hg h.bel.size (fun b hb => ?_), h.t1.kept hg (fun e => ?_), own_kept h.lts hg (fun b hb cur => (hm b hb cur).2), h.seen.kept hg (h.seen.off h.nxt), h.off, ?_, h.nds.kept hg hm, ?_, (h.nds2.kept hg hm).add (hn.kept hg hm), ?_⟩
  · have := hlt b hb; omega
  · have := hlt _ e.symm; omega
  · refine ⟨h.lev.1, ?_⟩
    rcases h.lev.2 with h0 | ⟨k, cp, cur, e, hbg, hk, q⟩
    · exact .inl h0
    · subst e
      exact .inr ⟨k, cp, cur, rfl, hbg, by rw [hg.block k (Array.getElem?_eq_some_iff.1 hk).1 (fun hh => h.ap k rfl hh.symm)]; exact hk, q⟩
  · rw [List.length_append, List.flatMap_append]; simpa using ho
  · intro b hv e
    have e2 : g = b := by injection e
    subst e2
    rcases hb with hb | hb
    · exact h.ap g hv hb
    · have := hL g hv; omega
/-- The next level becomes the level. -/
theorem KS.turn (h : KS n W wr v0 v1 vL B Q vV vX M M2 P P2) : KS n W wr v0 v1 vL B Q vX (.slice none 0 0) M2 [] P2 [] :=
  ⟨h.bel, h.t1, h.lts, h.seen, h.off, h.nxt, h.nds2, World.ownsRow_nil _ _ _ _, Nds.nil, fun b _ e => by cases e⟩
end
end Go.Proofs.Ytjdffjnennodaaa
namespace Go.Proofs.Ytjdffjnennodaaa
set_option linter.unusedSimpArgs false
set_option linter.unusedVariables false
set_option linter.unnecessarySimpa false
set_option maxRecDepth 200000
open Go.ChangeShapes Go.WideShapes Go.ChangeAt Go.RowKit

/-- All blocks but g are as they were. -/
structure Far (g : Nat) (w w' : World) : Prop where
  size : w.heap.size ≤ w'.heap.size
  block : ∀ k, k < w.heap.size → k ≠ g → w'.heap[k]? = w.heap[k]?
theorem Far.call {w w' : World} (h : Below w.heap.size w w') : Far w.heap.size w w' := ⟨h.size, fun k hk _ => h.block k hk⟩
theorem Far.alloc (w : World) (X : Obj) : Far w.heap.size w (w.alloc X) := Far.call (Below.alloc (Below.refl _ _) (Nat.le_refl _) X)
theorem Far.set (w : World) (g o : Nat) (v : Value) : Far g w (w.setCell ⟨g, o, none⟩ v) := by
  refine ⟨by simp, fun k _ hne => Below.heap_setCell _ _ _ _ (fun e => hne ?_)⟩
  first | exact e | exact e.symm
theorem Far.trans {g : Nat} {a b c : World} (h : Far g a b) (k : Far g b c) : Far g a c :=
  ⟨Nat.le_trans h.size k.size, fun i hi hne => (k.block i (Nat.lt_of_lt_of_le hi h.size) hne).trans (h.block i hi hne)⟩
def set3 (w : World) (g : Nat) (a b c : Value) : World := ((w.setCell ⟨g, 0, none⟩ a).setCell ⟨g, 1, none⟩ b).setCell ⟨g, 2, none⟩ c
theorem Far.set3 (w : World) (g : Nat) (a b c : Value) : Far g w (set3 w g a b c) := ((Far.set w g 0 a).trans (Far.set _ g 1 b)).trans (Far.set _ g 2 c)
theorem cell_far {g b o : Nat} {w w' : World} {v : Value} (h : w.cell? ⟨b, o, none⟩ = some v) (k : Far g w w') (hne : b ≠ g) : w'.cell? ⟨b, o, none⟩ = some v := by
  have hl := World.block_lt_of_cell? _ _ h
  rw [← h]; exact World.cell?_of_block (k.block b hl hne)
theorem frz_far {g b o : Nat} {w w' : World} (h : w.frozen? ⟨b, o, none⟩ = false) (k : Far g w w') (hl : b < w.heap.size) (hne : b ≠ g) : w'.frozen? ⟨b, o, none⟩ = false := by
  rw [← h]; exact World.frozen?_of_block (k.block b hl hne)
/-- A box of three cells. -/
structure Box3 (w : World) (g : Nat) (a b c : Value) : Prop where
  c0 : w.cell? ⟨g, 0, none⟩ = some a
  c1 : w.cell? ⟨g, 1, none⟩ = some b
  c2 : w.cell? ⟨g, 2, none⟩ = some c
  f0 : w.frozen? ⟨g, 0, none⟩ = false
  f1 : w.frozen? ⟨g, 1, none⟩ = false
  f2 : w.frozen? ⟨g, 2, none⟩ = false
theorem Box3.lt {w : World} {g : Nat} {a b c : Value} (h : Box3 w g a b c) : g < w.heap.size := World.block_lt_of_cell? _ _ h.c0
theorem Box3.far {w w' : World} {g g' : Nat} {a b c : Value} (h : Box3 w g a b c) (k : Far g' w w') (hne : g ≠ g') : Box3 w' g a b c :=
  ⟨cell_far h.c0 k hne, cell_far h.c1 k hne, cell_far h.c2 k hne, frz_far h.f0 k h.lt hne, frz_far h.f1 k h.lt hne, frz_far h.f2 k h.lt hne⟩
theorem Box3.call {w w' : World} {g : Nat} {a b c : Value} (h : Box3 w g a b c) (k : Below w.heap.size w w') : Box3 w' g a b c := h.far (Far.call k) (Nat.ne_of_lt h.lt)
theorem Box3.alloc {w : World} {g : Nat} {a b c : Value} (h : Box3 w g a b c) (X : Obj) : Box3 (w.alloc X) g a b c := h.far (Far.alloc w X) (Nat.ne_of_lt h.lt)
theorem Box3.drew {w : World} {g : Nat} {a b c : Value} (h : Box3 w g a b c) : Box3 w.drew g a b c := ⟨h.c0, h.c1, h.c2, h.f0, h.f1, h.f2⟩
theorem Box3.new (w : World) (a b c : Value) (t : TypeId) : Box3 (w.alloc (.cells #[a, b, c] t)) w.heap.size a b c :=
  ⟨new_cell w _ t 0 a rfl, new_cell w _ t 1 b rfl, new_cell w _ t 2 c rfl, new_frz w _ t 0, new_frz w _ t 1, new_frz w _ t 2⟩
theorem Box3.set {w : World} {g : Nat} {a b c : Value} (h : Box3 w g a b c) (x y z : Value) : Box3 (set3 w g x y z) g x y z := by
  obtain ⟨h0, h1, h2⟩ := box_set3 x y z h.c0 h.c1 h.c2
  exact ⟨h0, h1, h2, by unfold set3; simp only [World.frozen?_setCell]; exact h.f0, by unfold set3; simp only [World.frozen?_setCell]; exact h.f1, by unfold set3; simp only [World.frozen?_setCell]; exact h.f2⟩
/-- A row read over an act that touches another block. -/
theorem rd_far {w w' : World} {g q n sz c n0 : Nat} {xs : List Value} (h : Rd w (.slice (some ⟨g, 0, none⟩) n c) n0 sz xs) (k : Far q w w') (hne : g ≠ q) : Rd w' (.slice (some ⟨g, 0, none⟩) n c) n0 sz xs := by
  refine ⟨h.1, ?_⟩
  rcases h.2 with h0 | ⟨b, off, cap, hv, hb, h3, h4, h5⟩
  · exact .inl h0
  · refine .inr ⟨b, off, cap, hv, Nat.lt_of_lt_of_le hb k.size, h3, h4, fun j v hj => ?_⟩
    injection hv with hv1 hv2 hv3
    injection hv1 with hv1
    injection hv1 with e1 e2 e3
    exact cell_far (h5 j v hj) k (by rw [← e1]; exact hne)
theorem below_put3 {B g : Nat} {a w : World} (h : Below B a w) (hg : B ≤ g) (x y z : Value) : Below B a (set3 w g x y z) :=
  Below.setCell (Below.setCell (Below.setCell h hg _) hg _) hg _
end Go.Proofs.Ytjdffjnennodaaa
namespace Go.Proofs.Ytjdffjnennodaaa
set_option linter.unusedSimpArgs false
set_option linter.unusedVariables false
set_option linter.unnecessarySimpa false
set_option maxRecDepth 200000
open Go.ChangeShapes Go.WideShapes Go.ChangeAt Go.RowKit

theorem OwnG.farF {w w' : World} {base g n cap q : Nat} {t : TypeId} {xs : List E3} (h : OwnG w base t g n cap xs) (k : Far q w w') (hne : g ≠ q) : OwnG w' base t g n cap xs := by
  have hl := h.lt.2
  refine ⟨h.1, ?_⟩
  rcases h.2 with h0 | ⟨g', cap', cur, hv, hb, hg, r⟩
  · exact .inl h0
  · refine .inr ⟨g', cap', cur, hv, hb, ?_, r⟩
    injection hv with hv1 hv2 hv3
    injection hv1 with hv1
    injection hv1 with e1 e2 e3
    subst e1
    rw [k.block _ hl hne]; exact hg
def put3 (w : World) (g i : Nat) (e : E3) : World := ((w.setCell ⟨g, i * 3, none⟩ (.int .i64 e.a)).setCell ⟨g, i * 3 + 1, none⟩ (.int .i64 e.b)).setCell ⟨g, i * 3 + 2, none⟩ (.int .i64 e.c)
theorem Far.put3 (w : World) (g i : Nat) (e : E3) : Far g w (put3 w g i e) := ((Far.set w g _ _).trans (Far.set _ g _ _)).trans (Far.set _ g _ _)
theorem OwnG.ph {w : World} {base g n cap : Nat} {t : TypeId} {xs : List E3} (h : OwnG w base t g n cap xs) (i : Nat) (hi : i < n) (v : Int) :
    OwnG (w.setCell ⟨g, i * 3, none⟩ (.int .i64 v)) base t g n cap (xs.set i ⟨v, (xs.getD i ⟨0, 0, 0⟩).b, (xs.getD i ⟨0, 0, 0⟩).c⟩) := by
  have hl := h.len
  have h1 := (World.ownsRow.stored h (i * 3) (.int .i64 v)).1
  have e := set_flat ⟨v, (xs.getD i ⟨0, 0, 0⟩).b, (xs.getD i ⟨0, 0, 0⟩).c⟩ xs i (by omega)
  have hlen : (xs.flatMap E3.cs).length = xs.length * 3 := flat_len E3.len xs
  have g1 := flat_get E3.len xs i 1 (by omega) (by omega)
  have g2 := flat_get E3.len xs i 2 (by omega) (by omega)
  have ex : xs.getD i ⟨0, 0, 0⟩ = xs[i] := by simp [List.getD, show i < xs.length by omega]
  dsimp only at e
  rw [ex] at e ⊢
  have s1 : ((xs.flatMap E3.cs).set (i * 3) (.int .i64 v)).set (i * 3 + 1) (.int .i64 xs[i].b) = (xs.flatMap E3.cs).set (i * 3) (.int .i64 v) := by
    apply List.ext_getElem?
    intro j
    rw [List.getElem?_set]
    by_cases hj : i * 3 + 1 = j
    · subst hj
      rw [if_pos rfl, List.getElem?_set_ne (by omega), g1]
      simp [E3.cs, hlen]; omega
    · rw [if_neg hj]
  have s2 : ((xs.flatMap E3.cs).set (i * 3) (.int .i64 v)).set (i * 3 + 2) (.int .i64 xs[i].c) = (xs.flatMap E3.cs).set (i * 3) (.int .i64 v) := by
    apply List.ext_getElem?
    intro j
    rw [List.getElem?_set]
    by_cases hj : i * 3 + 2 = j
    · subst hj
      rw [if_pos rfl, List.getElem?_set_ne (by omega), g2]
      simp [E3.cs, hlen]; omega
    · rw [if_neg hj]
  rw [s1, s2] at e
  rw [e] at h1
  exact h1
/-- A block of the walk's own that is none of the tableau's. -/
structure Off (b gT g0 g1 g : Nat) : Prop where
  low : b + 2 ≤ g
  nT : g ≠ gT
  n0 : g ≠ g0
  n1 : g ≠ g1
/-- The walk's state: the gate's box, the answer's box, the tableau's box and its two rows. -/
structure GSt (W0 w : World) (b n k a c gT g0 p0 g1 p1 : Nat) (X Z : List E3) : Prop where
  P : Box3 w b (.int .i64 (k : Int)) (.int .i64 (a : Int)) (.int .i64 (c : Int))
  R : Box3 w (b + 1) (.int .i64 0) (.slice none 0 0) (.slice none 0 0)
  T : Box3 w gT (.int .i64 (n : Int)) (.slice (some ⟨g0, 0, none⟩) n p0) (.slice (some ⟨g1, 0, none⟩) n p1)
  O0 : OwnG w (b + 2) 62 g0 n p0 X
  O1 : OwnG w (b + 2) 62 g1 n p1 Z
  bw : Below b W0 w
  ne : g0 ≠ g1 ∧ g0 ≠ gT ∧ g1 ≠ gT
  lT : b + 2 ≤ gT
variable {W0 w w' : World} {b n k a c gT g0 p0 g1 p1 : Nat} {X Z : List E3}
theorem GSt.off (h : GSt W0 w b n k a c gT g0 p0 g1 p1 X Z) {g : Nat} (hg : w.heap.size ≤ g) : Off b gT g0 g1 g :=
  ⟨by have := h.R.lt; omega, by have := h.T.lt; omega, by have := h.O0.lt; omega, by have := h.O1.lt; omega⟩
theorem GSt.far (h : GSt W0 w b n k a c gT g0 p0 g1 p1 X Z) {q : Nat} (f : Far q w w') (hq : Off b gT g0 g1 q) (hb : Below b W0 w') : GSt W0 w' b n k a c gT g0 p0 g1 p1 X Z :=
  ⟨h.P.far f (by have := hq.low; omega), h.R.far f (by have := hq.low; omega), h.T.far f hq.nT.symm, h.O0.farF f hq.n0.symm, h.O1.farF f hq.n1.symm, hb, h.ne, h.lT⟩
theorem GSt.call (h : GSt W0 w b n k a c gT g0 p0 g1 p1 X Z) (hb : Below w.heap.size w w') : GSt W0 w' b n k a c gT g0 p0 g1 p1 X Z :=
  h.far (Far.call hb) (h.off (Nat.le_refl _)) (Below.trans h.bw (hb.mono (by have := h.P.lt; omega)))
theorem GSt.drew (h : GSt W0 w b n k a c gT g0 p0 g1 p1 X Z) : GSt W0 w.drew b n k a c gT g0 p0 g1 p1 X Z := h.call (Below.drew (Below.refl _ _))
theorem GSt.drewN (h : GSt W0 w b n k a c gT g0 p0 g1 p1 X Z) (j : Nat) : GSt W0 (w.drewN j) b n k a c gT g0 p0 g1 p1 X Z := h.call (below_drewN (Below.refl _ _) j)
theorem GSt.alloc (h : GSt W0 w b n k a c gT g0 p0 g1 p1 X Z) (o : Obj) : GSt W0 (w.alloc o) b n k a c gT g0 p0 g1 p1 X Z := h.call (Below.alloc (Below.refl _ _) (Nat.le_refl _) o)
theorem GSt.box (h : GSt W0 w b n k a c gT g0 p0 g1 p1 X Z) {g : Nat} (hg : Off b gT g0 g1 g) (x y z : Value) : GSt W0 (set3 w g x y z) b n k a c gT g0 p0 g1 p1 X Z :=
  h.far (Far.set3 w g x y z) hg (below_put3 h.bw (by have := hg.low; omega) x y z)
theorem below_putE {B g : Nat} {a w : World} (h : Below B a w) (hg : B ≤ g) (i : Nat) (e : E3) : Below B a (put3 w g i e) :=
  Below.setCell (Below.setCell (Below.setCell h hg _) hg _) hg _
theorem GSt.setX (h : GSt W0 w b n k a c gT g0 p0 g1 p1 X Z) (i : Nat) (hi : i < n) (e : E3) : GSt W0 (put3 w g0 i e) b n k a c gT g0 p0 g1 p1 (X.set i e) Z :=
  have f := Far.put3 w g0 i e
  have hl := h.O0.lt
  ⟨h.P.far f (by omega), h.R.far f (by omega), h.T.far f h.ne.2.1.symm, OwnG.set h.O0 i hi e, h.O1.farF f h.ne.1.symm, below_putE h.bw (by omega) i e, h.ne, h.lT⟩
theorem GSt.setZ (h : GSt W0 w b n k a c gT g0 p0 g1 p1 X Z) (i : Nat) (hi : i < n) (e : E3) : GSt W0 (put3 w g1 i e) b n k a c gT g0 p0 g1 p1 X (Z.set i e) :=
  have f := Far.put3 w g1 i e
  have hl := h.O1.lt
  ⟨h.P.far f (by omega), h.R.far f (by omega), h.T.far f h.ne.2.2.symm, h.O0.farF f h.ne.1, OwnG.set h.O1 i hi e, below_putE h.bw (by omega) i e, h.ne, h.lT⟩
theorem GSt.phX (h : GSt W0 w b n k a c gT g0 p0 g1 p1 X Z) (i : Nat) (hi : i < n) (v : Int) : GSt W0 (w.setCell ⟨g0, i * 3, none⟩ (.int .i64 v)) b n k a c gT g0 p0 g1 p1 (X.set i ⟨v, (X.getD i ⟨0, 0, 0⟩).b, (X.getD i ⟨0, 0, 0⟩).c⟩) Z :=
  have f := Far.set w g0 (i * 3) (.int .i64 v)
  have hl := h.O0.lt
  ⟨h.P.far f (by omega), h.R.far f (by omega), h.T.far f h.ne.2.1.symm, OwnG.ph h.O0 i hi v, h.O1.farF f h.ne.1.symm, Below.setCell h.bw (by dsimp only; omega) _, h.ne, h.lT⟩
theorem GSt.phZ (h : GSt W0 w b n k a c gT g0 p0 g1 p1 X Z) (i : Nat) (hi : i < n) (v : Int) : GSt W0 (w.setCell ⟨g1, i * 3, none⟩ (.int .i64 v)) b n k a c gT g0 p0 g1 p1 X (Z.set i ⟨v, (Z.getD i ⟨0, 0, 0⟩).b, (Z.getD i ⟨0, 0, 0⟩).c⟩) :=
  have f := Far.set w g1 (i * 3) (.int .i64 v)
  have hl := h.O1.lt
  ⟨h.P.far f (by omega), h.R.far f (by omega), h.T.far f h.ne.2.2.symm, h.O0.farF f h.ne.1, OwnG.ph h.O1 i hi v, Below.setCell h.bw (by dsimp only; omega) _, h.ne, h.lT⟩
/-- A box of the walk's own over the stores of the tableau. -/
theorem Box3.putE {x y z : Value} {g q : Nat} (h : Box3 w g x y z) (i : Nat) (e : E3) (hne : g ≠ q) : Box3 (put3 w q i e) g x y z := h.far (Far.put3 w q i e) hne
theorem Box3.ph {x y z : Value} {g q : Nat} (h : Box3 w g x y z) (i : Nat) (v : Value) (hne : g ≠ q) : Box3 (w.setCell ⟨q, i, none⟩ v) g x y z := h.far (Far.set w q i v) hne
/-- What the walk of a gate's tableau leaves. -/
def GPost (n : Nat) (w : World) (X Z : List E3) (e : Ending) (w' : World) : Prop :=
  ∃ r0 r1, e = .returned (.agg #[.int .i64 (n : Int), r0, r1]) ∧ OwnE w' w.heap.size 62 r0 E3.cs 3 X ∧ OwnE w' w.heap.size 62 r1 E3.cs 3 Z ∧ Apart r0 r1 ∧ Below w.heap.size w w'
theorem GSt.done {w0 w : World} {n k a c gT g0 p0 g1 p1 : Nat} {X Z : List E3} (h : GSt w0 w w0.heap.size n k a c gT g0 p0 g1 p1 X Z) (x y z : Value) :
    GPost n w0 X Z (.returned (.agg #[.int .i64 (n : Int), .slice (some ⟨g0, 0, none⟩) n p0, .slice (some ⟨g1, 0, none⟩) n p1])) (set3 w (w0.heap.size + 1) x y z) :=
  have f := Far.set3 w (w0.heap.size + 1) x y z
  have l0 := h.O0.lt
  have l1 := h.O1.lt
  ⟨_, _, rfl, OwnE.le (h.O0.farF f (by omega)).own (by omega), OwnE.le (h.O1.farF f (by omega)).own (by omega),
    fun g h0 h1 => h.ne.1 (by
      have e0 : some g0 = some g := h0
      have e1 : some g1 = some g := h1
      injection e0 with e0; injection e1 with e1; omega), below_put3 h.bw (by omega) x y z⟩
theorem GPost.eq {n : Nat} {w0 w : World} {X Z X' Z' : List E3} {e : Ending} (h : GPost n w0 X Z e w) (hx : X = X') (hz : Z = Z') : GPost n w0 X' Z' e w := by subst hx; subst hz; exact h
theorem idX_get {n a : Nat} (h : a < n) : (idX n).getD a ⟨0, 0, 0⟩ = ⟨0, (2 : Int) ^ a, 0⟩ := by unfold idX; simp [List.getD, h]
theorem idZ_get {n a : Nat} (h : a < n) : (idZ n).getD a ⟨0, 0, 0⟩ = ⟨0, 0, (2 : Int) ^ a⟩ := by unfold idZ; simp [List.getD, h]
theorem set_pes (L : List PN) (i p x z : Nat) : (pes L).set i ⟨(p : Int), (x : Int), (z : Int)⟩ = pes (L.set i ⟨p, x, z⟩) := by
  unfold pes; rw [List.map_set]; rfl
theorem E3set_get {L : List E3} {i : Nat} (h : i < L.length) (e : E3) : (L.set i e).getD i ⟨0, 0, 0⟩ = e := by simp [List.getD, h]
end Go.Proofs.Ytjdffjnennodaaa
