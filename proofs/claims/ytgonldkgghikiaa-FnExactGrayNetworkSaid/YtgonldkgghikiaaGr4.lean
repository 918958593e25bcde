/- The state of the program's rounds (gray), plain. -/
import Derived.Test.YtgonldkgghikiaaGr3
import Derived.Test.YtgonldkgghikiaaSyns
namespace Go.Proofs.Ytgonldkgghikiaa
set_option linter.unusedSimpArgs false
set_option linter.unusedVariables false
set_option linter.unnecessarySimpa false
set_option maxRecDepth 200000
open Go.ChangeShapes Go.WideShapes Go.ChangeAt Go.RowKit

def orow (v : Value) (O : List E3) : Row := ⟨v, 62, 3, O.length, O.flatMap E3.cs⟩
theorem info_grayTask : (Try.prog.info? 67).map (fun i => (i.zero, i.size, i.bytes)) = some (some (.agg #[.slice none 0 0, .int .i64 0, .int .i64 0]), 3, 40) := by kernel_rfl
theorem gLoop_nil (n f : Nat) (out : List E3) : gLoop n f [] out = out := by cases f <;> rfl
theorem gLoop_empty {n f : Nat} {x : GT} {r : List GT} {out : List E3} (h : x.vs = []) : gLoop n (f + 1) (x :: r) out = gLoop n f r out := by
  conv => lhs; unfold gLoop
  rw [if_pos h]
theorem gLoop_stop {n f : Nat} {x : GT} {r : List GT} {out : List E3} (h : x.vs ≠ []) (hb : gBest (gIns n x r out).vs x.fm < 0) : gLoop n (f + 1) (x :: r) out = gLoop n f (gIns n x r out).st (gIns n x r out).out := by
  conv => lhs; unfold gLoop
  rw [if_neg h, if_pos hb]
theorem gLoop_split {n f j : Nat} {x : GT} {r : List GT} {out : List E3} (h : x.vs ≠ []) (hb : gBest (gIns n x r out).vs x.fm = (j : Int)) :
    gLoop n (f + 1) (x :: r) out = gLoop n f (⟨gSet (gIns n x r out).vs j false, clearB x.fm j, x.tg⟩ :: ⟨gSet (gIns n x r out).vs j true, clearB x.fm j, if x.tg < 0 then (j : Int) else x.tg⟩ :: (gIns n x r out).st) (gIns n x r out).out := by
  conv => lhs; unfold gLoop
  rw [if_neg h, if_neg (by rw [hb]; omega), hb, Int.toNat_natCast]
theorem andNot_clear : ∀ fm : Nat, fm < 32 → ∀ j : Nat, j < 5 → fm.testBit j = true → bits .andNot .i64 (fm : Int) ((2 : Int) ^ j) = ((clearB fm j : Nat) : Int) := by decide +kernel
theorem pow_sub1 {n : Nat} (h : n ≤ 5) : IntKind.i64.wrap ((2 : Int) ^ n - 1) = ((2 ^ n - 1 : Nat) : Int) := by
  have : n = 0 ∨ n = 1 ∨ n = 2 ∨ n = 3 ∨ n = 4 ∨ n = 5 := by omega
  rcases this with rfl | rfl | rfl | rfl | rfl | rfl <;> decide +kernel
theorem fam_lit0 {w : World} {B : Nat} {R : List Row} (h : Fam w B R) (hB : B ≤ w.heap.size) : Fam (w.alloc (.cells #[] 62)) B (orow (.slice (some ⟨w.heap.size, 0, none⟩) 0 0) [] :: R) :=
  h.add (show Below w.heap.size w _ from Below.alloc (Below.refl _ _) (Nat.le_refl _) _) (own_lit0 (f := E3.cs) (sz := 3) w w.heap.size 62 w.heap.size rfl (Nat.le_refl _)) hB
theorem fam_stack {w : World} {B : Nat} {R : List Row} (y : TM) (h : Fam w B R) (hB : B ≤ w.heap.size) : Fam (w.alloc (.cells #[y.vv, y.md, .int .i64 y.x.tg] 67)) B (trow 67 (.slice (some ⟨w.heap.size, 0, none⟩) 1 1) [y] :: R) := by
  refine h.add (show Below w.heap.size w _ from Below.alloc (Below.refl _ _) (Nat.le_refl _) _) ?_ hB
  refine ⟨rfl, .inr ⟨w.heap.size, 1, #[y.vv, y.md, .int .i64 y.x.tg], rfl, Nat.le_refl _, ?_, Nat.le_refl _, by unfold maxLen; omega, rfl, rfl⟩⟩
  show (w.heap.push _)[w.heap.size]? = _
  simp
  rfl
theorem fam_call {w w' : World} {B : Nat} {R : List Row} {v : Value} {L : List Nat} (h : Fam w B R) (hb : Below w.heap.size w w') (ho : OwnI w' w.heap.size v (ints L)) (hB : B ≤ w.heap.size) : Fam w' B (nrow v L :: R) :=
  h.add hb (show w'.ownsRow w.heap.size 3 1 v L.length _ from by unfold OwnI at ho; rw [ints_len] at ho; exact ho) hB
/-- The program's state between rounds. -/
structure GMem (n : Nat) (masks : List Nat) (B f : Nat) (w0 w : World) (vO vS : Value) (T : List TM) (O : List E3) : Prop where
  fam : Fam w B (T.map vrow ++ [orow vO O, trow 67 vS T])
  md : ∀ y ∈ T, y.md = .int .i64 (y.x.fm : Int)
  inv : GInv n f (T.map TM.x).reverse O
  run : gLoop n f (T.map TM.x).reverse O = gAll n masks
  bel : Below B w0 w
  BW : B ≤ w.heap.size
/-- The program's state within a round: the top task y lies in the box bx. -/
structure GIw (B bx : Nat) (w0 w : World) (vO vS : Value) (T : List TM) (y : TM) (O : List E3) : Prop where
  fam : Fam w B ((T ++ [y]).map vrow ++ [orow vO O, trow 67 vS (T ++ [y])])
  md : ∀ z ∈ T ++ [y], z.md = .int .i64 (z.x.fm : Int)
  bel : Below B w0 w
  BW : B ≤ w.heap.size
  c0 : w.cell? ⟨bx, 0, none⟩ = some y.vv
  c1 : w.cell? ⟨bx, 1, none⟩ = some (.int .i64 (y.x.fm : Int))
  c2 : w.cell? ⟨bx, 2, none⟩ = some (.int .i64 y.x.tg)
  offO : vO.ownBlock ≠ some bx
  offS : vS.ownBlock ≠ some bx
  offV : ∀ z ∈ T ++ [y], z.vv.ownBlock ≠ some bx
  bB : B ≤ bx
  bw : bx < w.heap.size
section
variable {B bx : Nat} {w0 w w' : World} {vO vS : Value} {T : List TM} {y : TM} {O : List E3}
theorem bel_cell {b o : Nat} {u : Value} (hb : Below w.heap.size w w') (hc : w.cell? ⟨b, o, none⟩ = some u) : w'.cell? ⟨b, o, none⟩ = some u :=
  (hb.cell (World.block_lt_of_cell? _ _ hc)).trans hc
theorem GIw.call (h : GIw B bx w0 w vO vS T y O) (hb : Below w.heap.size w w') : GIw B bx w0 w' vO vS T y O :=
  ⟨h.fam.call hb, h.md, Below.trans h.bel (hb.mono h.BW), Nat.le_trans h.BW hb.size, bel_cell hb h.c0, bel_cell hb h.c1, bel_cell hb h.c2, h.offO, h.offS, h.offV, h.bB, Nat.lt_of_lt_of_le h.bw hb.size⟩
theorem GIw.app {g : E3} {v3 : Value} (h : GIw B bx w0 w vO vS T y O) (hg : w.grownBy w' vO.ownBlock) (ho : w'.ownsRow B 62 3 v3 (O.length + 1) (O.flatMap E3.cs ++ g.cs)) (hat : v3.ownBlock = vO.ownBlock ∨ v3.ownBlock = some w.heap.size) : GIw B bx w0 w' v3 vS T y (O ++ [g]) := by
  have hO : Fam w B (orow vO O :: ((T ++ [y]).map vrow ++ [trow 67 vS (T ++ [y])])) := h.fam.perm List.perm_middle
  have ho' : Row.own w' B (orow v3 (O ++ [g])) := by
    show w'.ownsRow B 62 3 v3 (O ++ [g]).length ((O ++ [g]).flatMap E3.cs)
    rw [show (O ++ [g]).length = O.length + 1 from by simp, List.flatMap_append]
    simpa using ho
  have hf := hO.upd hg ho' hat
  refine ⟨hf.perm List.perm_middle.symm, h.md, ?_, Nat.le_trans h.BW hg.size, cell_grown hg h.c0 h.offO, cell_grown hg h.c1 h.offO, cell_grown hg h.c2 h.offO, ?_, h.offS, h.offV, h.bB, Nat.lt_of_lt_of_le h.bw hg.size⟩
  · exact grown_below h.bel (show w.ownsRow B 62 3 vO O.length _ from hO.head) hg (Nat.le_refl _) h.BW
  · rcases hat with e | e
    · rw [e]; exact h.offO
    · rw [e]; intro e2; injection e2 with e2; have := h.bw; omega
theorem Cha.below {vs : List Value} (h : Below B w0 w) (hc : Cha vs w w') (hB : B ≤ w.heap.size) (hv : ∀ v ∈ vs, ∀ g, v.ownBlock = some g → B ≤ g) : Below B w0 w' := by
  refine ⟨hc.os.trans h.os, hc.tape.trans h.tape, hc.output.trans h.output, Nat.le_trans h.size hc.size, fun k hk => (hc.block k (by omega) (fun v hv2 e => ?_)).trans (h.block k hk)⟩
  have := hv v hv2 k e
  omega
theorem GIw.inv {j t : Nat} (h : GIw B bx w0 w vO vS T y O) (hF : Fam w' B (((T ++ [y]).map (TM.add j t)).map vrow ++ [orow vO O, trow 67 vS (T ++ [y])])) (hC : Cha ((T ++ [y]).map TM.vv) w w') : GIw B bx w0 w' vO vS (T.map (TM.add j t)) (y.add j t) O := by
  have hn : ∀ v ∈ (T ++ [y]).map TM.vv, v.ownBlock ≠ some bx := fun v hv => by
    obtain ⟨z, hz, rfl⟩ := List.mem_map.1 hv
    exact h.offV z hz
  have e : T.map (TM.add j t) ++ [y.add j t] = (T ++ [y]).map (TM.add j t) := by simp
  refine ⟨?_, ?_, ?_, Nat.le_trans h.BW hC.size, hC.cell hn h.c0, hC.cell hn h.c1, hC.cell hn h.c2, h.offO, h.offS, ?_, h.bB, Nat.lt_of_lt_of_le h.bw hC.size⟩
  · rw [e, trow_add]; exact hF
  · rw [e]
    intro z hz
    obtain ⟨z0, hz0, rfl⟩ := List.mem_map.1 hz
    exact h.md z0 hz0
  · refine hC.below h.bel h.BW (fun v hv g e2 => ?_)
    obtain ⟨z, hz, rfl⟩ := List.mem_map.1 hv
    exact (World.ownsRow.lt (h.fam.own (vrow z) (List.mem_append_left _ (List.mem_map_of_mem hz))) g e2).1
  · rw [e]
    intro z hz
    obtain ⟨z0, hz0, rfl⟩ := List.mem_map.1 hz
    exact h.offV z0 hz0
end
/-- What the rounds within a task have made of the plain state. -/
structure GIp (n : Nat) (x : GT) (r : List GT) (out : List E3) (k : Nat) (vv : Value) (T : List TM) (y : TM) (O : List E3) : Prop where
  st : (⟨y.x.vs, (T.map TM.x).reverse, O⟩ : GS) = gInTo x.tg ⟨x.vs, r, out⟩ k
  fm : y.x.fm = x.fm
  tg : y.x.tg = x.tg
  vv : y.vv = vv
  ok : GSok n (r.map GT.fm) x.vs.length k out.length ⟨y.x.vs, (T.map TM.x).reverse, O⟩
section
variable {n k : Nat} {x : GT} {r : List GT} {out : List E3} {vv : Value} {T : List TM} {y : TM} {O : List E3}
theorem gIn_no {tg : Int} {s : GS} {j : Nat} (h : gHit tg s.vs j = false) : gIn tg s j = s := by unfold gIn; rw [h]; rfl
theorem gIn_yes {tg : Int} {s : GS} {j : Nat} (h : gHit tg s.vs j = true) : gIn tg s j = ⟨addL j tg.toNat s.vs, s.st.map (GT.add j tg.toNat), s.out ++ [⟨9, (j : Int), tg⟩]⟩ := by unfold gIn; rw [if_pos h]
theorem GIp.no (hn : n ≤ 5) (htg : 0 ≤ x.tg ∧ x.tg < (n : Int)) (hk : k < n) (h : GIp n x r out k vv T y O) (hh : gHit x.tg y.x.vs k = false) : GIp n x r out (k + 1) vv T y O := by
  have e := gIn_ok hn htg hk h.ok
  rw [gIn_no hh] at e
  refine ⟨?_, h.fm, h.tg, h.vv, e⟩
  rw [gInTo_succ, ← h.st, gIn_no hh]
theorem GIp.yes (hn : n ≤ 5) (htg : 0 ≤ x.tg ∧ x.tg < (n : Int)) (hk : k < n) (h : GIp n x r out k vv T y O) (hh : gHit x.tg y.x.vs k = true) : GIp n x r out (k + 1) vv (T.map (TM.add k x.tg.toNat)) (y.add k x.tg.toNat) (O ++ [⟨9, (k : Int), x.tg⟩]) := by
  have e := gIn_ok hn htg hk h.ok
  have e1 : (⟨(y.add k x.tg.toNat).x.vs, ((T.map (TM.add k x.tg.toNat)).map TM.x).reverse, O ++ [⟨9, (k : Int), x.tg⟩]⟩ : GS) = gIn x.tg ⟨y.x.vs, (T.map TM.x).reverse, O⟩ k := by
    rw [gIn_yes hh]
    simp only [List.map_map, ← List.map_reverse]
    rfl
  refine ⟨?_, h.fm, h.tg, h.vv, by rw [e1]; exact e⟩
  rw [gInTo_succ, ← h.st, e1]
end
end Go.Proofs.Ytgonldkgghikiaa
