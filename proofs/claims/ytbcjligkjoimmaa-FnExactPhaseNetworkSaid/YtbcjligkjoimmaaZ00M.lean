/- General lemmas, over any program: a law's statement out of a contract of its function; small words for results. -/
import Derived.Test.YtbcjligkjoimmaaRows
import Derived.WalkKit
import Derived.ProofKit
import Derived.OpenShut
import Derived.Outline
import Derived.BigGuardPart
import Derived.Lib.Hide
import Derived.ChangeOld
import Derived.Below
import Derived.Carry
import Derived.Lib.SmallJoins
import Derived.Deep.Slices
import Derived.Deep.Fields
import Derived.OwnWalk
import Derived.Laws.MakeOwn
import Derived.Deep.Light
import Derived.BigQuiet
import Derived.Deep.QuietTactic
import Derived.Deep.RegionHeld3
namespace Go.Proofs.Ytbcjligkjoimmaa
set_option linter.unusedSimpArgs false
set_option linter.unusedVariables false
set_option linter.unnecessarySimpa false
set_option maxRecDepth 200000
open Go.ChangeShapes Go.WideShapes Go.ChangeAt Go.RowKit

theorem ret_int {k : IntKind} {a b : Int} (h : a = b) : Ending.returned (.int k a) = .returned (.int k b) := by rw [h]
theorem ret_bool {a b : Bool} (h : a = b) : Ending.returned (.bool a) = .returned (.bool b) := by rw [h]

theorem below_drewN {B : Nat} {a w : World} (h : Below B a w) (n : Nat) : Below B a (w.drewN n) := ⟨h.os, h.tape, h.output, h.size, h.block⟩
theorem bcell {W w1 : World} (hb : Below W.heap.size W w1) : (∀ b o, b < W.heap.size → w1.cell? ⟨b, o, none⟩ = W.cell? ⟨b, o, none⟩) ∧ (∀ b o, b < W.heap.size → w1.frozen? ⟨b, o, none⟩ = W.frozen? ⟨b, o, none⟩) :=
  ⟨fun b o h => hb.cell (p := ⟨b, o, none⟩) h, fun b o h => hb.frozen (p := ⟨b, o, none⟩) h⟩

theorem own : ownKnob Try.prog.godebug = none := by kernel_rfl
theorem laidOut : laidOutB Try.prog = true := by kernel_rfl

section
variable {H : Type} {enc : TypeId × Value → H}

theorem below_trodAll {P : Program} (hl : laidOutB P = true) {W W' : World} (hb : Below W.heap.size W W') :
    ∀ {ts : List TypeId} {vs : List Value} {ds : List (DataW H)} {p : List MemPlace}, (∀ t ∈ ts, P.readableRec t = true ∧ t < P.types.size) →
    DataW.TrodAll enc P W 0 (fun _ => true) true ts vs ds p → DataW.TrodAll enc P W' 0 (fun b => decide (b < W.heap.size)) true ts vs ds p
  | [], [], [], _, _, h => h
  | t :: ts, v :: vs, d :: ds, p, hr, h => by
    obtain ⟨p1, q1, h1, h2, rfl⟩ := h
    have lt : ∀ x ∈ p1, x.block < W.heap.size := by obtain ⟨m, hm⟩ := h1; exact DataW.trod_lt m _ _ _ hm
    exact ⟨p1, q1, Below.trod hl (hr t (by simp)).1 (hr t (by simp)).2 h1 hb lt, below_trodAll hl hb (fun u hu => hr u (by simp [hu])) h2, rfl⟩
  | [], _ :: _, _, _, _, h => by cases h
  | [], [], _ :: _, _, _, h => by cases h
  | _ :: _, [], _, _, _, h => by cases h
  | _ :: _, _ :: _, [], _, _, h => by cases h

theorem trodAll_len {P : Program} {W : World} {b : Nat} {sp : Nat → Bool} {hd : Bool} :
    ∀ {ts : List TypeId} {vs : List Value} {ds : List (DataW H)} {p : List MemPlace}, DataW.TrodAll enc P W b sp hd ts vs ds p → ds.length = ts.length
  | [], [], [], _, _ => rfl
  | _ :: ts, _ :: vs, _ :: ds, _, h => by
    obtain ⟨_, _, _, h2, _⟩ := h
    simp [trodAll_len h2]
  | [], _ :: _, _, _, h => by cases h
  | [], [], _ :: _, _, h => by cases h
  | _ :: _, [], _, _, h => by cases h
  | _ :: _, _ :: _, [], _, h => by cases h

theorem law_lifted {C : Checked} {os : Os} {f : FuncId} {fn : Func} {s : ChangeSpec} {conds : List PathCond}
    (own : ownKnob C.prog.godebug = none) (started : os.Started) (noInit : C.prog.inits.idxOf? f = none) (hfn : C.prog.funcs[f]? = some fn)
    (hvars : s.vars = []) (hl : laidOutB C.prog = true) (hread : ∀ t ∈ fn.params.toList, C.prog.readableRec t = true ∧ t < C.prog.types.size)
    {tb : TypeId} (hres : fn.resultTypes = #[tb]) (htb : C.prog.underlying tb = some .bool)
    (hs : ∀ ds : List (DataW H), ds.length = fn.params.size → s.fn H ds = { results := [.lit (.bool true)], args := ds })
    (witness : ∃ (w : World) (tape : Tape) (i : Input), w.os = os ∧ (w.forCall tape i).Shaped C.prog ∧ i.vars = [] ∧ Input.okWide C.prog (w.forCall tape i) .any w.heap.size f i ∧
      s.pre6 enc C.prog fn conds false (w.forCall tape i).memory i.args ∧ ({} : Assume).holds C.prog (lone (Frame.enter C.prog f i.args .normal) [] (w.forCall tape i)))
    (walk : ∀ (W : World) (base : Nat) (args : Array Value) (ds : List (DataW H)) (p : List MemPlace),
      (∀ (j : Nat) t v, fn.params[j]? = some t → args[j]? = some v → Value.okWide C.prog W .any base t v) →
      DataW.TrodAll enc C.prog W 0 (fun _ => true) true fn.params.toList args.toList ds p →
      Calls C.prog f args W fun e w' => e = .returned (.bool true) ∧ Below W.heap.size W w') :
    ReturnsInHanded {} C os f .any (s.pre6 enc C.prog fn conds false) (s.post enc C.prog fn false true false false) := by
  refine returnsInHanded_of_change (C := C) own started noInit hfn witness ?_
  intro W base args ds gs before hval hW hcnd _
  have hW' := hW
  obtain ⟨p, q, hA, hV, rfl, hfz, hnd⟩ := hW
  rw [hvars] at hV
  have hgs : gs = [] ∧ q = [] := by
    cases gs with
    | nil => exact ⟨rfl, hV⟩
    | cons => cases hV
  obtain ⟨rfl, rfl⟩ := hgs
  refine (walk W base args ds p hval hA).mono fun e W' ⟨he, bel⟩ => ?_
  subst he
  have hlen : ds.length = fn.params.size := by simpa using trodAll_len hA
  refine ⟨_, rfl, ds, [], _, [], p, [], hW', ?_, ?_, ?_, bel.frame _, fun h => by cases h⟩
  · rw [List.append_nil, hs ds hlen, hres]
    exact trodAll_mk1 (shut_bool htb _)
  · rw [List.append_nil, hs ds hlen]
    exact below_trodAll hl bel hread hA
  · rw [hvars, List.append_nil, hs ds hlen]
    rfl
end
end Go.Proofs.Ytbcjligkjoimmaa
namespace Go.Proofs.Ytbcjligkjoimmaa
set_option linter.unusedSimpArgs false
set_option linter.unusedVariables false
set_option linter.unnecessarySimpa false
set_option maxRecDepth 200000
open Go.ChangeShapes Go.WideShapes Go.ChangeAt Go.RowKit

/-- A slice value of n elements of sz cells each, which reads as the cells xs. -/
def Rd (w : World) (v : Value) (n sz : Nat) (xs : List Value) : Prop :=
  xs.length = n * sz ∧ (((∃ a cap, v = .slice a 0 cap) ∧ n = 0) ∨ ∃ b off cap, v = .slice (some ⟨b, off, none⟩) n cap ∧ b < w.heap.size ∧ n ≤ cap ∧ cap ≤ 9223372036854775807 ∧ ∀ j u, xs[j]? = some u → w.cell? ⟨b, off + j, none⟩ = some u)
/-- The same for whole numbers. -/
def RdI (w : World) (v : Value) (zs : List Int) : Prop := Rd w v zs.length 1 (zs.map (Value.int .i64))

section
variable {w w' : World} {v : Value} {n sz : Nat} {xs : List Value} {base : Nat} {e : TypeId}
theorem Rd.below {B : Nat} (h : Rd w v n sz xs) (hb : Below B w w') (hB : B = w.heap.size) : Rd w' v n sz xs := by
  subst hB
  refine ⟨h.1, ?_⟩
  rcases h.2 with h0 | ⟨b, off, cap, h1, h2, h3, h4, h5⟩
  · exact .inl h0
  · exact .inr ⟨b, off, cap, h1, Nat.lt_of_lt_of_le h2 hb.size, h3, h4, fun j u hj => by rw [hb.cell (p := ⟨b, off + j, none⟩) h2]; exact h5 j u hj⟩
theorem Rd.of_own (h : w.ownsRow base e sz v n xs) : Rd w v n sz xs := by
  refine ⟨h.1, ?_⟩
  rcases h.2 with h0 | ⟨g, cap, cur, rfl, hbg, hg, hnc, hcm, hcs, htake⟩
  · exact .inl ⟨⟨none, 0, h0.1⟩, h0.2⟩
  · refine .inr ⟨g, 0, cap, rfl, (Array.getElem?_eq_some_iff.1 hg).1, hnc, by simpa [maxLen] using hcm, fun j u hj => ?_⟩
    have := World.ownsRow.cells h (g := g) rfl j u hj
    rw [Nat.zero_add]
    have hadd : (⟨g, 0, none⟩ : Addr).add j = ⟨g, j, none⟩ := by unfold Addr.add; split <;> simp_all
    rw [← hadd]; exact this
theorem own_below {B : Nat} (h : w.ownsRow base e sz v n xs) (hb : Below B w w') (hB : B = w.heap.size) : w'.ownsRow base e sz v n xs := by
  subst hB
  refine ⟨h.1, ?_⟩
  rcases h.2 with h0 | ⟨g, cap, cur, rfl, hbg, hg, r⟩
  · exact .inl h0
  · exact .inr ⟨g, cap, cur, rfl, hbg, by rw [hb.block g (Array.getElem?_eq_some_iff.1 hg).1]; exact hg, r⟩
theorem own_le {base' : Nat} (h : w.ownsRow base e sz v n xs) (hb : base' ≤ base) : w.ownsRow base' e sz v n xs :=
  ⟨h.1, h.2.elim Or.inl (fun ⟨g, cap, cur, hv, hg, r⟩ => Or.inr ⟨g, cap, cur, hv, Nat.le_trans hb hg, r⟩)⟩
/-- Only the blocks of one slice may have changed. -/
theorem below_of_grown {row : Option Nat} {B : Nat} (hg : w.grownBy w' row) (hB : B ≤ w.heap.size) (hr : ∀ k, row = some k → B ≤ k) : Below B w w' :=
  (Below.refl B w).grown hg hB hr
end

theorem grown_old {w w' : World} {v : Value} {base sz n b o : Nat} {e : TypeId} {xs : List Value} (hown : w.ownsRow base e sz v n xs) (hg : w.grownBy w' v.ownBlock) (hb : b < base) (hlt : b < w.heap.size) :
    w'.cell? ⟨b, o, none⟩ = w.cell? ⟨b, o, none⟩ ∧ w'.frozen? ⟨b, o, none⟩ = w.frozen? ⟨b, o, none⟩ := by
  have hblk : w'.heap[b]? = w.heap[b]? := hg.block b hlt (fun e => by
    have := (hown.lt b e.symm).1
    omega)
  exact ⟨World.cell?_of_block (w := w) (a := ⟨b, o, none⟩) hblk, World.frozen?_of_block (w := w) (a := ⟨b, o, none⟩) hblk⟩
theorem grown_keep {w w' : World} {v u : Value} {base sz n b o : Nat} {e : TypeId} {xs : List Value} (X : Obj) (hown : w.ownsRow base e sz v n xs) (hg : (w.alloc X).grownBy w' v.ownBlock) (hc : w.cell? ⟨b, o, none⟩ = some u) (hf : w.frozen? ⟨b, o, none⟩ = false) (hb : b < base) :
    w'.cell? ⟨b, o, none⟩ = some u ∧ w'.frozen? ⟨b, o, none⟩ = false := by
  have hlt : b < w.heap.size := World.block_lt_of_cell? w ⟨b, o, none⟩ hc
  have h := grown_old (o := o) (hown.alloc X) hg hb (by simp; omega)
  rw [World.cell?_of_block (w := w) (w' := w.alloc X) (a := ⟨b, o, none⟩) (Below.heap_alloc w X b hlt), World.frozen?_of_block (w := w) (w' := w.alloc X) (a := ⟨b, o, none⟩) (Below.heap_alloc w X b hlt)] at h
  exact ⟨h.1.trans hc, h.2.trans hf⟩
theorem cell_alloc_keep {w : World} {b o : Nat} {u : Value} (X : Obj) (hc : w.cell? ⟨b, o, none⟩ = some u) : (w.alloc X).cell? ⟨b, o, none⟩ = some u := by
  have hlt : b < w.heap.size := World.block_lt_of_cell? w ⟨b, o, none⟩ hc
  rw [World.cell?_of_block (w := w) (w' := w.alloc X) (a := ⟨b, o, none⟩) (Below.heap_alloc w X b hlt)]; exact hc
theorem cell_alloc_swap {w : World} {b o : Nat} {u : Value} (X Y : Obj) (hb : b < w.heap.size) (hc : (w.alloc Y).cell? ⟨b, o, none⟩ = some u) : (w.alloc X).cell? ⟨b, o, none⟩ = some u := by
  rw [World.cell?_of_block (w := w) (w' := w.alloc Y) (a := ⟨b, o, none⟩) (Below.heap_alloc w Y b hb)] at hc
  rw [World.cell?_of_block (w := w) (w' := w.alloc X) (a := ⟨b, o, none⟩) (Below.heap_alloc w X b hb)]; exact hc
theorem cell_set_keep {w : World} {nb b o o2 : Nat} {u v : Value} (hb : b < nb) (hc : w.cell? ⟨b, o, none⟩ = some u) : (w.setCell ⟨nb, o2, none⟩ v).cell? ⟨b, o, none⟩ = some u :=
  ((Below.setCell (p := ⟨nb, o2, none⟩) (Below.refl nb w) (Nat.le_refl _) v).cell (p := ⟨b, o, none⟩) hb).trans hc
theorem frozen_alloc_keep {w : World} {b o : Nat} {u : Value} (X : Obj) (hc : w.cell? ⟨b, o, none⟩ = some u) (hf : w.frozen? ⟨b, o, none⟩ = false) : (w.alloc X).frozen? ⟨b, o, none⟩ = false := by
  have hlt : b < w.heap.size := World.block_lt_of_cell? w ⟨b, o, none⟩ hc
  rw [World.frozen?_of_block (w := w) (w' := w.alloc X) (a := ⟨b, o, none⟩) (Below.heap_alloc w X b hlt)]; exact hf
theorem frozen_alloc_lt {w : World} {b o : Nat} (X : Obj) (h : b < w.heap.size) (hf : w.frozen? ⟨b, o, none⟩ = false) : (w.alloc X).frozen? ⟨b, o, none⟩ = false := by
  rw [World.frozen?_of_block (w := w) (w' := w.alloc X) (a := ⟨b, o, none⟩) (Below.heap_alloc w X b h)]; exact hf
theorem grown_same {w w' : World} {v u : Value} {base sz n b o : Nat} {e : TypeId} {xs : List Value} (hown : w.ownsRow base e sz v n xs) (hg : w.grownBy w' v.ownBlock) (hc : w.cell? ⟨b, o, none⟩ = some u) (hf : w.frozen? ⟨b, o, none⟩ = false) (hb : b < base) :
    w'.cell? ⟨b, o, none⟩ = some u ∧ w'.frozen? ⟨b, o, none⟩ = false := by
  have hlt : b < w.heap.size := World.block_lt_of_cell? w ⟨b, o, none⟩ hc
  have h := grown_old (o := o) hown hg hb hlt
  exact ⟨h.1.trans hc, h.2.trans hf⟩
theorem grown_below {w0 w w' : World} {v : Value} {B base sz n : Nat} {e : TypeId} {xs : List Value} (h : Below B w0 w) (hown : w.ownsRow base e sz v n xs) (hg : w.grownBy w' v.ownBlock) (hB : B ≤ base) (hBw : B ≤ w.heap.size) : Below B w0 w' :=
  h.grown hg hBw (fun k hk => Nat.le_trans hB (hown.lt k hk).1)
theorem news_cells (w : World) (us : List Value) (t : TypeId) : ∀ (j : Nat) (u : Value), us[j]? = some u → (w.alloc (.cells us.toArray t)).cell? ((⟨w.heap.size, 0, none⟩ : Addr).add j) = some u := by
  intro j u h
  have hadd : (⟨w.heap.size, 0, none⟩ : Addr).add j = ⟨w.heap.size, j, none⟩ := by unfold Addr.add; split <;> simp_all
  rw [hadd, World.cell?_alloc_at _ _ _ _ rfl]
  simpa using h
/-- 'append' to a slice of the call's own, of one element or more: what comes out shows what it is. -/
theorem wpList_append_some {P : Program} (w : World) {ops : Array Oper} {rest : List Oper} {o : Oper} {a : Act} {Q : Exit → Act → World → Prop} (hgd : o.guard = none) (s x : Operand) (t : TypeId)
    (ho : o.op = .call { callee := .builtin .append, args := #[s, x], argTypes := #[t, t] })
    (base : Nat) (e : TypeId) (i : TypeInfo) (z : Value) (size bytes : Nat) (ht : P.underlying t = some (.slice e)) (hi : P.info? e = some i) (hz : i.zero = some z)
    (hsize : i.size = size) (hby : i.bytes = bytes) (hzs : z.cells.size = size) (hsz : 0 < size)
    (v : Value) (n : Nat) (xs : List Value) (hs : a.eval s = v) (hown : w.ownsRow base e size v n xs)
    (ad : Addr) (m c : Nat) (news : List Value) (hx : a.eval x = .slice (some ad) m c) (hl : news.length = m * size) (hnews : ∀ j u, news[j]? = some u → w.cell? (ad.add j) = some u) (h1 : ∀ u ∈ news, u.oneCell' = true)
    (h63 : n + m ≤ maxLen) (hbytes : (n + m) * bytes ≤ 140737488355328) (hbase : base ≤ w.heap.size) (hm : 0 < m)
    (h : ∀ g cap w', w'.ownsRow base e size (.slice (some ⟨g, 0, none⟩) (n + m) cap) (n + m) (xs ++ news) → base ≤ g → w.grownBy w' v.ownBlock → w.heap.size ≤ w'.heap.size → wpList P ops Q rest (a.put o.dst (.slice (some ⟨g, 0, none⟩) (n + m) cap)) w') : wpList P ops Q (o :: rest) a w := by
  refine wpList_append_own w hgd s x t ho base e i z size bytes ht hi hz hsize hby hzs hsz v n xs hs hown ad m c news hx hl hnews h1 h63 hbytes hbase ?_
  intro v' w' ho' hg' _
  obtain ⟨g, cap, rfl⟩ := Go.Joins.ownsRow_form ho' (by omega)
  exact h g cap w' ho' (ho'.lt g rfl).1 hg' hg'.size

/-- Outside the blocks from lo up to hi nothing that was there has changed. -/
structure Mid (lo hi : Nat) (w w' : World) : Prop where
  os : w'.os = w.os
  tape : w'.tape = w.tape
  output : w'.output = w.output
  size : w.heap.size ≤ w'.heap.size
  block : ∀ k, k < w.heap.size → (k < lo ∨ hi ≤ k) → w'.heap[k]? = w.heap[k]?
theorem Mid.of_grown {w w' : World} {row : Option Nat} {lo hi : Nat} (h : w.grownBy w' row) (hr : ∀ k, row = some k → lo ≤ k ∧ k < hi) : Mid lo hi w w' :=
  ⟨h.os, h.tape, h.output, h.size, fun k hk hkk => h.block k hk (fun e => by have := hr k e.symm; omega)⟩
theorem Mid.of_below {w w' : World} {lo hi B : Nat} (h : Below B w w') (hB : B = w.heap.size) : Mid lo hi w w' := by
  subst hB
  exact ⟨h.os, h.tape, h.output, h.size, fun k hk _ => h.block k hk⟩
theorem Mid.trans {w w' w'' : World} {lo hi : Nat} (h : Mid lo hi w w') (k : Mid lo hi w' w'') : Mid lo hi w w'' :=
  ⟨k.os.trans h.os, k.tape.trans h.tape, k.output.trans h.output, Nat.le_trans h.size k.size, fun i hi hh => (k.block i (Nat.lt_of_lt_of_le hi h.size) hh).trans (h.block i hi hh)⟩
theorem Mid.alloc (w : World) (lo hi : Nat) (o : Obj) : Mid lo hi w (w.alloc o) := .of_below ((Below.refl w.heap.size w).alloc (Nat.le_refl _) o) rfl
theorem Mid.below {w w' : World} {lo hi B : Nat} (h : Mid lo hi w w') (hB : B ≤ lo) (hBw : B ≤ w.heap.size) : Below B w w' :=
  ⟨h.os, h.tape, h.output, h.size, fun k hk => h.block k (by omega) (.inl (by omega))⟩
theorem Mid.cell {w w' : World} {lo hi b o : Nat} {u : Value} (h : Mid lo hi w w') (hb : b < lo ∨ hi ≤ b) (hc : w.cell? ⟨b, o, none⟩ = some u) : w'.cell? ⟨b, o, none⟩ = some u := by
  have hlt : b < w.heap.size := World.block_lt_of_cell? w ⟨b, o, none⟩ hc
  rw [World.cell?_of_block (w := w) (a := ⟨b, o, none⟩) (h.block b hlt hb)]; exact hc
theorem Mid.own {w w' : World} {lo hi base sz n : Nat} {e : TypeId} {v : Value} {xs : List Value} (h : Mid lo hi w w') (ho : w.ownsRow base e sz v n xs) (hb : ∀ g, v.ownBlock = some g → g < lo ∨ hi ≤ g) : w'.ownsRow base e sz v n xs := by
  refine ⟨ho.1, ?_⟩
  rcases ho.2 with h0 | ⟨g, cap, cur, rfl, hbg, hg, r⟩
  · exact .inl h0
  · exact .inr ⟨g, cap, cur, rfl, hbg, by rw [h.block g (Array.getElem?_eq_some_iff.1 hg).1 (hb g rfl)]; exact hg, r⟩

theorem below_cell {w w' : World} {b o B : Nat} {u : Value} (h : Below B w w') (hB : B = w.heap.size) (hc : w.cell? ⟨b, o, none⟩ = some u) : w'.cell? ⟨b, o, none⟩ = some u := by
  subst hB
  exact (h.cell (p := ⟨b, o, none⟩) (World.block_lt_of_cell? w _ hc)).trans hc

theorem below_frz {w w' : World} {b o B : Nat} (h : Below B w w') (hB : B = w.heap.size) (hlt : b < w.heap.size) (hf : w.frozen? ⟨b, o, none⟩ = false) : w'.frozen? ⟨b, o, none⟩ = false := by
  subst hB
  exact (h.frozen (p := ⟨b, o, none⟩) hlt).trans hf

/-- A box of four cells, made ahead of a call: what the call leaves of it. -/
theorem new_box4 {w w3 : World} {z0 z1 z2 z3 : Value} {t : TypeId} (hb : Below (w.alloc (.cells #[z0, z1, z2, z3] t)).heap.size (w.alloc (.cells #[z0, z1, z2, z3] t)) w3) :
    (w3.cell? ⟨w.heap.size, 0, none⟩ = some z0 ∧ w3.cell? ⟨w.heap.size, 1, none⟩ = some z1 ∧ w3.cell? ⟨w.heap.size, 2, none⟩ = some z2 ∧ w3.cell? ⟨w.heap.size, 3, none⟩ = some z3) ∧
    (w3.frozen? ⟨w.heap.size, 0, none⟩ = false ∧ w3.frozen? ⟨w.heap.size, 1, none⟩ = false ∧ w3.frozen? ⟨w.heap.size, 2, none⟩ = false ∧ w3.frozen? ⟨w.heap.size, 3, none⟩ = false) ∧ w.heap.size < w3.heap.size := by
  have hs : w.heap.size < (w.alloc (.cells #[z0, z1, z2, z3] t)).heap.size := by simp
  have hc := fun o u h => below_cell (b := w.heap.size) (o := o) (u := u) hb rfl h
  obtain ⟨_, hf⟩ := bcell hb
  refine ⟨⟨hc 0 _ ?_, hc 1 _ ?_, hc 2 _ ?_, hc 3 _ ?_⟩, ⟨?_, ?_, ?_, ?_⟩, Nat.lt_of_lt_of_le hs hb.size⟩
  all_goals first | (rw [World.cell?_alloc_at _ _ _ _ rfl]; rfl) | (rw [hf _ _ hs]; refine World.frozen?_alloc_at _ _ _ _ ?_; simp)
theorem new_box4d {w w3 : World} {z0 z1 z2 z3 : Value} {t : TypeId} (hb : Below (w.alloc (.cells #[z0, z1, z2, z3] t)).drew.heap.size (w.alloc (.cells #[z0, z1, z2, z3] t)).drew w3) :
    (w3.cell? ⟨w.heap.size, 0, none⟩ = some z0 ∧ w3.cell? ⟨w.heap.size, 1, none⟩ = some z1 ∧ w3.cell? ⟨w.heap.size, 2, none⟩ = some z2 ∧ w3.cell? ⟨w.heap.size, 3, none⟩ = some z3) ∧
    (w3.frozen? ⟨w.heap.size, 0, none⟩ = false ∧ w3.frozen? ⟨w.heap.size, 1, none⟩ = false ∧ w3.frozen? ⟨w.heap.size, 2, none⟩ = false ∧ w3.frozen? ⟨w.heap.size, 3, none⟩ = false) ∧ w.heap.size < w3.heap.size := by
  have hs : w.heap.size < (w.alloc (.cells #[z0, z1, z2, z3] t)).drew.heap.size := by simp
  have hc : ∀ o u, (w.alloc (.cells #[z0, z1, z2, z3] t)).cell? ⟨w.heap.size, o, none⟩ = some u → w3.cell? ⟨w.heap.size, o, none⟩ = some u := fun o u h => ((bcell hb).1 _ o hs).trans h
  have hf : ∀ o, (w.alloc (.cells #[z0, z1, z2, z3] t)).frozen? ⟨w.heap.size, o, none⟩ = false → w3.frozen? ⟨w.heap.size, o, none⟩ = false := fun o h => ((bcell hb).2 _ o hs).trans h
  refine ⟨⟨hc 0 _ ?_, hc 1 _ ?_, hc 2 _ ?_, hc 3 _ ?_⟩, ⟨hf _ ?_, hf _ ?_, hf _ ?_, hf _ ?_⟩, Nat.lt_of_lt_of_le hs hb.size⟩
  all_goals first | (rw [World.cell?_alloc_at _ _ _ _ rfl]; rfl) | (refine World.frozen?_alloc_at _ _ _ _ ?_; simp)
/-- The box that a declared variable of four cells lies in, whichever the order of its making was. -/
theorem box_made {w3 : World} {z0 z1 z2 z3 : Value} {t : TypeId} : 
    ((w3.alloc (.cells #[z0, z1, z2, z3] t)).cell? ⟨w3.heap.size, 0, none⟩ = some z0 ∧ (w3.alloc (.cells #[z0, z1, z2, z3] t)).cell? ⟨w3.heap.size, 1, none⟩ = some z1 ∧ (w3.alloc (.cells #[z0, z1, z2, z3] t)).cell? ⟨w3.heap.size, 2, none⟩ = some z2 ∧ (w3.alloc (.cells #[z0, z1, z2, z3] t)).cell? ⟨w3.heap.size, 3, none⟩ = some z3) ∧ w3.heap.size < (w3.alloc (.cells #[z0, z1, z2, z3] t)).heap.size := by
  refine ⟨⟨?_, ?_, ?_, ?_⟩, by simp⟩
  all_goals (rw [World.cell?_alloc_at _ _ _ _ rfl]; rfl)
theorem box_set {w3 : World} {nb : Nat} {u0 u1 u2 u3 : Value} (v0 v1 v2 v3 : Value) (c0 : w3.cell? ⟨nb, 0, none⟩ = some u0) (c1 : w3.cell? ⟨nb, 1, none⟩ = some u1) (c2 : w3.cell? ⟨nb, 2, none⟩ = some u2) (c3 : w3.cell? ⟨nb, 3, none⟩ = some u3) (hl : nb < w3.heap.size) :
    (((((w3.setCell ⟨nb, 0, none⟩ v0).setCell ⟨nb, 1, none⟩ v1).setCell ⟨nb, 2, none⟩ v2).setCell ⟨nb, 3, none⟩ v3).cell? ⟨nb, 0, none⟩ = some v0 ∧
     ((((w3.setCell ⟨nb, 0, none⟩ v0).setCell ⟨nb, 1, none⟩ v1).setCell ⟨nb, 2, none⟩ v2).setCell ⟨nb, 3, none⟩ v3).cell? ⟨nb, 1, none⟩ = some v1 ∧
     ((((w3.setCell ⟨nb, 0, none⟩ v0).setCell ⟨nb, 1, none⟩ v1).setCell ⟨nb, 2, none⟩ v2).setCell ⟨nb, 3, none⟩ v3).cell? ⟨nb, 2, none⟩ = some v2 ∧
     ((((w3.setCell ⟨nb, 0, none⟩ v0).setCell ⟨nb, 1, none⟩ v1).setCell ⟨nb, 2, none⟩ v2).setCell ⟨nb, 3, none⟩ v3).cell? ⟨nb, 3, none⟩ = some v3) ∧
     nb < ((((w3.setCell ⟨nb, 0, none⟩ v0).setCell ⟨nb, 1, none⟩ v1).setCell ⟨nb, 2, none⟩ v2).setCell ⟨nb, 3, none⟩ v3).heap.size := by
  have ne : ∀ i j : Nat, i ≠ j → (⟨nb, i, none⟩ : Addr) ≠ ⟨nb, j, none⟩ := fun i j h e => h (by injection e)
  have g1 : (w3.setCell ⟨nb, 0, none⟩ v0).cell? ⟨nb, 1, none⟩ = some u1 := (World.cell?_setCell_other _ _ _ _ (ne 0 1 (by omega))).trans c1
  have g2 : ((w3.setCell ⟨nb, 0, none⟩ v0).setCell ⟨nb, 1, none⟩ v1).cell? ⟨nb, 2, none⟩ = some u2 := (World.cell?_setCell_other _ _ _ _ (ne 1 2 (by omega))).trans ((World.cell?_setCell_other _ _ _ _ (ne 0 2 (by omega))).trans c2)
  have g3 : (((w3.setCell ⟨nb, 0, none⟩ v0).setCell ⟨nb, 1, none⟩ v1).setCell ⟨nb, 2, none⟩ v2).cell? ⟨nb, 3, none⟩ = some u3 := (World.cell?_setCell_other _ _ _ _ (ne 2 3 (by omega))).trans ((World.cell?_setCell_other _ _ _ _ (ne 1 3 (by omega))).trans ((World.cell?_setCell_other _ _ _ _ (ne 0 3 (by omega))).trans c3))
  have h0 := World.cell?_setCell_same _ _ v0 c0
  have h1 := World.cell?_setCell_same _ _ v1 g1
  have h2 := World.cell?_setCell_same _ _ v2 g2
  have h3 := World.cell?_setCell_same _ _ v3 g3
  refine ⟨⟨?_, ?_, ?_, h3⟩, World.block_lt_of_cell? _ _ h3⟩
  · exact (World.cell?_setCell_other _ _ _ _ (ne 3 0 (by omega))).trans ((World.cell?_setCell_other _ _ _ _ (ne 2 0 (by omega))).trans ((World.cell?_setCell_other _ _ _ _ (ne 1 0 (by omega))).trans h0))
  · exact (World.cell?_setCell_other _ _ _ _ (ne 3 1 (by omega))).trans ((World.cell?_setCell_other _ _ _ _ (ne 2 1 (by omega))).trans h1)
  · exact (World.cell?_setCell_other _ _ _ _ (ne 3 2 (by omega))).trans h2
theorem box_set2 {w3 : World} {nb : Nat} {u0 u1 : Value} (v0 v1 : Value) (c0 : w3.cell? ⟨nb, 0, none⟩ = some u0) (c1 : w3.cell? ⟨nb, 1, none⟩ = some u1) :
    ((w3.setCell ⟨nb, 0, none⟩ v0).setCell ⟨nb, 1, none⟩ v1).cell? ⟨nb, 0, none⟩ = some v0 ∧ ((w3.setCell ⟨nb, 0, none⟩ v0).setCell ⟨nb, 1, none⟩ v1).cell? ⟨nb, 1, none⟩ = some v1 := by
  have ne : ∀ i j : Nat, i ≠ j → (⟨nb, i, none⟩ : Addr) ≠ ⟨nb, j, none⟩ := fun i j h e => h (by injection e)
  have g0 : w3.cell? ⟨nb, 0, none⟩ = some u0 := by exact c0
  have h0 : (w3.setCell ⟨nb, 0, none⟩ v0).cell? ⟨nb, 0, none⟩ = some v0 := World.cell?_setCell_same _ _ _ g0
  have g1 : (w3.setCell ⟨nb, 0, none⟩ v0).cell? ⟨nb, 1, none⟩ = some u1 := by refine (World.cell?_setCell_other _ _ _ _ (ne 0 1 (by omega))).trans ?_; exact c1
  have h1 : ((w3.setCell ⟨nb, 0, none⟩ v0).setCell ⟨nb, 1, none⟩ v1).cell? ⟨nb, 1, none⟩ = some v1 := World.cell?_setCell_same _ _ _ g1
  have k0 : ((w3.setCell ⟨nb, 0, none⟩ v0).setCell ⟨nb, 1, none⟩ v1).cell? ⟨nb, 0, none⟩ = some v0 := by refine (World.cell?_setCell_other _ _ _ _ (ne 1 0 (by omega))).trans ?_; exact h0
  have k1 : ((w3.setCell ⟨nb, 0, none⟩ v0).setCell ⟨nb, 1, none⟩ v1).cell? ⟨nb, 1, none⟩ = some v1 := by exact h1
  exact ⟨k0, k1⟩
theorem box_set3 {w3 : World} {nb : Nat} {u0 u1 u2 : Value} (v0 v1 v2 : Value) (c0 : w3.cell? ⟨nb, 0, none⟩ = some u0) (c1 : w3.cell? ⟨nb, 1, none⟩ = some u1) (c2 : w3.cell? ⟨nb, 2, none⟩ = some u2) :
    (((w3.setCell ⟨nb, 0, none⟩ v0).setCell ⟨nb, 1, none⟩ v1).setCell ⟨nb, 2, none⟩ v2).cell? ⟨nb, 0, none⟩ = some v0 ∧ (((w3.setCell ⟨nb, 0, none⟩ v0).setCell ⟨nb, 1, none⟩ v1).setCell ⟨nb, 2, none⟩ v2).cell? ⟨nb, 1, none⟩ = some v1 ∧ (((w3.setCell ⟨nb, 0, none⟩ v0).setCell ⟨nb, 1, none⟩ v1).setCell ⟨nb, 2, none⟩ v2).cell? ⟨nb, 2, none⟩ = some v2 := by
  have ne : ∀ i j : Nat, i ≠ j → (⟨nb, i, none⟩ : Addr) ≠ ⟨nb, j, none⟩ := fun i j h e => h (by injection e)
  have g0 : w3.cell? ⟨nb, 0, none⟩ = some u0 := by exact c0
  have h0 : (w3.setCell ⟨nb, 0, none⟩ v0).cell? ⟨nb, 0, none⟩ = some v0 := World.cell?_setCell_same _ _ _ g0
  have g1 : (w3.setCell ⟨nb, 0, none⟩ v0).cell? ⟨nb, 1, none⟩ = some u1 := by refine (World.cell?_setCell_other _ _ _ _ (ne 0 1 (by omega))).trans ?_; exact c1
  have h1 : ((w3.setCell ⟨nb, 0, none⟩ v0).setCell ⟨nb, 1, none⟩ v1).cell? ⟨nb, 1, none⟩ = some v1 := World.cell?_setCell_same _ _ _ g1
  have g2 : ((w3.setCell ⟨nb, 0, none⟩ v0).setCell ⟨nb, 1, none⟩ v1).cell? ⟨nb, 2, none⟩ = some u2 := by refine (World.cell?_setCell_other _ _ _ _ (ne 1 2 (by omega))).trans ?_; refine (World.cell?_setCell_other _ _ _ _ (ne 0 2 (by omega))).trans ?_; exact c2
  have h2 : (((w3.setCell ⟨nb, 0, none⟩ v0).setCell ⟨nb, 1, none⟩ v1).setCell ⟨nb, 2, none⟩ v2).cell? ⟨nb, 2, none⟩ = some v2 := World.cell?_setCell_same _ _ _ g2
  have k0 : (((w3.setCell ⟨nb, 0, none⟩ v0).setCell ⟨nb, 1, none⟩ v1).setCell ⟨nb, 2, none⟩ v2).cell? ⟨nb, 0, none⟩ = some v0 := by refine (World.cell?_setCell_other _ _ _ _ (ne 2 0 (by omega))).trans ?_; refine (World.cell?_setCell_other _ _ _ _ (ne 1 0 (by omega))).trans ?_; exact h0
  have k1 : (((w3.setCell ⟨nb, 0, none⟩ v0).setCell ⟨nb, 1, none⟩ v1).setCell ⟨nb, 2, none⟩ v2).cell? ⟨nb, 1, none⟩ = some v1 := by refine (World.cell?_setCell_other _ _ _ _ (ne 2 1 (by omega))).trans ?_; exact h1
  have k2 : (((w3.setCell ⟨nb, 0, none⟩ v0).setCell ⟨nb, 1, none⟩ v1).setCell ⟨nb, 2, none⟩ v2).cell? ⟨nb, 2, none⟩ = some v2 := by exact h2
  exact ⟨k0, k1, k2⟩
theorem box_set4c {w3 : World} {nb : Nat} {u0 u1 u2 u3 : Value} (v0 v1 v2 v3 : Value) (c0 : w3.cell? ⟨nb, 0, none⟩ = some u0) (c1 : w3.cell? ⟨nb, 1, none⟩ = some u1) (c2 : w3.cell? ⟨nb, 2, none⟩ = some u2) (c3 : w3.cell? ⟨nb, 3, none⟩ = some u3) :
    ((((w3.setCell ⟨nb, 0, none⟩ v0).setCell ⟨nb, 1, none⟩ v1).setCell ⟨nb, 2, none⟩ v2).setCell ⟨nb, 3, none⟩ v3).cell? ⟨nb, 0, none⟩ = some v0 ∧ ((((w3.setCell ⟨nb, 0, none⟩ v0).setCell ⟨nb, 1, none⟩ v1).setCell ⟨nb, 2, none⟩ v2).setCell ⟨nb, 3, none⟩ v3).cell? ⟨nb, 1, none⟩ = some v1 ∧ ((((w3.setCell ⟨nb, 0, none⟩ v0).setCell ⟨nb, 1, none⟩ v1).setCell ⟨nb, 2, none⟩ v2).setCell ⟨nb, 3, none⟩ v3).cell? ⟨nb, 2, none⟩ = some v2 ∧ ((((w3.setCell ⟨nb, 0, none⟩ v0).setCell ⟨nb, 1, none⟩ v1).setCell ⟨nb, 2, none⟩ v2).setCell ⟨nb, 3, none⟩ v3).cell? ⟨nb, 3, none⟩ = some v3 := by
  have ne : ∀ i j : Nat, i ≠ j → (⟨nb, i, none⟩ : Addr) ≠ ⟨nb, j, none⟩ := fun i j h e => h (by injection e)
  have g0 : w3.cell? ⟨nb, 0, none⟩ = some u0 := by exact c0
  have h0 : (w3.setCell ⟨nb, 0, none⟩ v0).cell? ⟨nb, 0, none⟩ = some v0 := World.cell?_setCell_same _ _ _ g0
  have g1 : (w3.setCell ⟨nb, 0, none⟩ v0).cell? ⟨nb, 1, none⟩ = some u1 := by refine (World.cell?_setCell_other _ _ _ _ (ne 0 1 (by omega))).trans ?_; exact c1
  have h1 : ((w3.setCell ⟨nb, 0, none⟩ v0).setCell ⟨nb, 1, none⟩ v1).cell? ⟨nb, 1, none⟩ = some v1 := World.cell?_setCell_same _ _ _ g1
  have g2 : ((w3.setCell ⟨nb, 0, none⟩ v0).setCell ⟨nb, 1, none⟩ v1).cell? ⟨nb, 2, none⟩ = some u2 := by refine (World.cell?_setCell_other _ _ _ _ (ne 1 2 (by omega))).trans ?_; refine (World.cell?_setCell_other _ _ _ _ (ne 0 2 (by omega))).trans ?_; exact c2
  have h2 : (((w3.setCell ⟨nb, 0, none⟩ v0).setCell ⟨nb, 1, none⟩ v1).setCell ⟨nb, 2, none⟩ v2).cell? ⟨nb, 2, none⟩ = some v2 := World.cell?_setCell_same _ _ _ g2
  have g3 : (((w3.setCell ⟨nb, 0, none⟩ v0).setCell ⟨nb, 1, none⟩ v1).setCell ⟨nb, 2, none⟩ v2).cell? ⟨nb, 3, none⟩ = some u3 := by refine (World.cell?_setCell_other _ _ _ _ (ne 2 3 (by omega))).trans ?_; refine (World.cell?_setCell_other _ _ _ _ (ne 1 3 (by omega))).trans ?_; refine (World.cell?_setCell_other _ _ _ _ (ne 0 3 (by omega))).trans ?_; exact c3
  have h3 : ((((w3.setCell ⟨nb, 0, none⟩ v0).setCell ⟨nb, 1, none⟩ v1).setCell ⟨nb, 2, none⟩ v2).setCell ⟨nb, 3, none⟩ v3).cell? ⟨nb, 3, none⟩ = some v3 := World.cell?_setCell_same _ _ _ g3
  have k0 : ((((w3.setCell ⟨nb, 0, none⟩ v0).setCell ⟨nb, 1, none⟩ v1).setCell ⟨nb, 2, none⟩ v2).setCell ⟨nb, 3, none⟩ v3).cell? ⟨nb, 0, none⟩ = some v0 := by refine (World.cell?_setCell_other _ _ _ _ (ne 3 0 (by omega))).trans ?_; refine (World.cell?_setCell_other _ _ _ _ (ne 2 0 (by omega))).trans ?_; refine (World.cell?_setCell_other _ _ _ _ (ne 1 0 (by omega))).trans ?_; exact h0
  have k1 : ((((w3.setCell ⟨nb, 0, none⟩ v0).setCell ⟨nb, 1, none⟩ v1).setCell ⟨nb, 2, none⟩ v2).setCell ⟨nb, 3, none⟩ v3).cell? ⟨nb, 1, none⟩ = some v1 := by refine (World.cell?_setCell_other _ _ _ _ (ne 3 1 (by omega))).trans ?_; refine (World.cell?_setCell_other _ _ _ _ (ne 2 1 (by omega))).trans ?_; exact h1
  have k2 : ((((w3.setCell ⟨nb, 0, none⟩ v0).setCell ⟨nb, 1, none⟩ v1).setCell ⟨nb, 2, none⟩ v2).setCell ⟨nb, 3, none⟩ v3).cell? ⟨nb, 2, none⟩ = some v2 := by refine (World.cell?_setCell_other _ _ _ _ (ne 3 2 (by omega))).trans ?_; exact h2
  have k3 : ((((w3.setCell ⟨nb, 0, none⟩ v0).setCell ⟨nb, 1, none⟩ v1).setCell ⟨nb, 2, none⟩ v2).setCell ⟨nb, 3, none⟩ v3).cell? ⟨nb, 3, none⟩ = some v3 := by exact h3
  exact ⟨k0, k1, k2, k3⟩
theorem box_set5 {w3 : World} {nb : Nat} {u0 u1 u2 u3 u4 : Value} (v0 v1 v2 v3 v4 : Value) (c0 : w3.cell? ⟨nb, 0, none⟩ = some u0) (c1 : w3.cell? ⟨nb, 1, none⟩ = some u1) (c2 : w3.cell? ⟨nb, 2, none⟩ = some u2) (c3 : w3.cell? ⟨nb, 3, none⟩ = some u3) (c4 : w3.cell? ⟨nb, 4, none⟩ = some u4) :
    (((((w3.setCell ⟨nb, 0, none⟩ v0).setCell ⟨nb, 1, none⟩ v1).setCell ⟨nb, 2, none⟩ v2).setCell ⟨nb, 3, none⟩ v3).setCell ⟨nb, 4, none⟩ v4).cell? ⟨nb, 0, none⟩ = some v0 ∧ (((((w3.setCell ⟨nb, 0, none⟩ v0).setCell ⟨nb, 1, none⟩ v1).setCell ⟨nb, 2, none⟩ v2).setCell ⟨nb, 3, none⟩ v3).setCell ⟨nb, 4, none⟩ v4).cell? ⟨nb, 1, none⟩ = some v1 ∧ (((((w3.setCell ⟨nb, 0, none⟩ v0).setCell ⟨nb, 1, none⟩ v1).setCell ⟨nb, 2, none⟩ v2).setCell ⟨nb, 3, none⟩ v3).setCell ⟨nb, 4, none⟩ v4).cell? ⟨nb, 2, none⟩ = some v2 ∧ (((((w3.setCell ⟨nb, 0, none⟩ v0).setCell ⟨nb, 1, none⟩ v1).setCell ⟨nb, 2, none⟩ v2).setCell ⟨nb, 3, none⟩ v3).setCell ⟨nb, 4, none⟩ v4).cell? ⟨nb, 3, none⟩ = some v3 ∧ (((((w3.setCell ⟨nb, 0, none⟩ v0).setCell ⟨nb, 1, none⟩ v1).setCell ⟨nb, 2, none⟩ v2).setCell ⟨nb, 3, none⟩ v3).setCell ⟨nb, 4, none⟩ v4).cell? ⟨nb, 4, none⟩ = some v4 := by
  have ne : ∀ i j : Nat, i ≠ j → (⟨nb, i, none⟩ : Addr) ≠ ⟨nb, j, none⟩ := fun i j h e => h (by injection e)
  have g0 : w3.cell? ⟨nb, 0, none⟩ = some u0 := by exact c0
  have h0 : (w3.setCell ⟨nb, 0, none⟩ v0).cell? ⟨nb, 0, none⟩ = some v0 := World.cell?_setCell_same _ _ _ g0
  have g1 : (w3.setCell ⟨nb, 0, none⟩ v0).cell? ⟨nb, 1, none⟩ = some u1 := by refine (World.cell?_setCell_other _ _ _ _ (ne 0 1 (by omega))).trans ?_; exact c1
  have h1 : ((w3.setCell ⟨nb, 0, none⟩ v0).setCell ⟨nb, 1, none⟩ v1).cell? ⟨nb, 1, none⟩ = some v1 := World.cell?_setCell_same _ _ _ g1
  have g2 : ((w3.setCell ⟨nb, 0, none⟩ v0).setCell ⟨nb, 1, none⟩ v1).cell? ⟨nb, 2, none⟩ = some u2 := by refine (World.cell?_setCell_other _ _ _ _ (ne 1 2 (by omega))).trans ?_; refine (World.cell?_setCell_other _ _ _ _ (ne 0 2 (by omega))).trans ?_; exact c2
  have h2 : (((w3.setCell ⟨nb, 0, none⟩ v0).setCell ⟨nb, 1, none⟩ v1).setCell ⟨nb, 2, none⟩ v2).cell? ⟨nb, 2, none⟩ = some v2 := World.cell?_setCell_same _ _ _ g2
  have g3 : (((w3.setCell ⟨nb, 0, none⟩ v0).setCell ⟨nb, 1, none⟩ v1).setCell ⟨nb, 2, none⟩ v2).cell? ⟨nb, 3, none⟩ = some u3 := by refine (World.cell?_setCell_other _ _ _ _ (ne 2 3 (by omega))).trans ?_; refine (World.cell?_setCell_other _ _ _ _ (ne 1 3 (by omega))).trans ?_; refine (World.cell?_setCell_other _ _ _ _ (ne 0 3 (by omega))).trans ?_; exact c3
  have h3 : ((((w3.setCell ⟨nb, 0, none⟩ v0).setCell ⟨nb, 1, none⟩ v1).setCell ⟨nb, 2, none⟩ v2).setCell ⟨nb, 3, none⟩ v3).cell? ⟨nb, 3, none⟩ = some v3 := World.cell?_setCell_same _ _ _ g3
  have g4 : ((((w3.setCell ⟨nb, 0, none⟩ v0).setCell ⟨nb, 1, none⟩ v1).setCell ⟨nb, 2, none⟩ v2).setCell ⟨nb, 3, none⟩ v3).cell? ⟨nb, 4, none⟩ = some u4 := by refine (World.cell?_setCell_other _ _ _ _ (ne 3 4 (by omega))).trans ?_; refine (World.cell?_setCell_other _ _ _ _ (ne 2 4 (by omega))).trans ?_; refine (World.cell?_setCell_other _ _ _ _ (ne 1 4 (by omega))).trans ?_; refine (World.cell?_setCell_other _ _ _ _ (ne 0 4 (by omega))).trans ?_; exact c4
  have h4 : (((((w3.setCell ⟨nb, 0, none⟩ v0).setCell ⟨nb, 1, none⟩ v1).setCell ⟨nb, 2, none⟩ v2).setCell ⟨nb, 3, none⟩ v3).setCell ⟨nb, 4, none⟩ v4).cell? ⟨nb, 4, none⟩ = some v4 := World.cell?_setCell_same _ _ _ g4
  have k0 : (((((w3.setCell ⟨nb, 0, none⟩ v0).setCell ⟨nb, 1, none⟩ v1).setCell ⟨nb, 2, none⟩ v2).setCell ⟨nb, 3, none⟩ v3).setCell ⟨nb, 4, none⟩ v4).cell? ⟨nb, 0, none⟩ = some v0 := by refine (World.cell?_setCell_other _ _ _ _ (ne 4 0 (by omega))).trans ?_; refine (World.cell?_setCell_other _ _ _ _ (ne 3 0 (by omega))).trans ?_; refine (World.cell?_setCell_other _ _ _ _ (ne 2 0 (by omega))).trans ?_; refine (World.cell?_setCell_other _ _ _ _ (ne 1 0 (by omega))).trans ?_; exact h0
  have k1 : (((((w3.setCell ⟨nb, 0, none⟩ v0).setCell ⟨nb, 1, none⟩ v1).setCell ⟨nb, 2, none⟩ v2).setCell ⟨nb, 3, none⟩ v3).setCell ⟨nb, 4, none⟩ v4).cell? ⟨nb, 1, none⟩ = some v1 := by refine (World.cell?_setCell_other _ _ _ _ (ne 4 1 (by omega))).trans ?_; refine (World.cell?_setCell_other _ _ _ _ (ne 3 1 (by omega))).trans ?_; refine (World.cell?_setCell_other _ _ _ _ (ne 2 1 (by omega))).trans ?_; exact h1
  have k2 : (((((w3.setCell ⟨nb, 0, none⟩ v0).setCell ⟨nb, 1, none⟩ v1).setCell ⟨nb, 2, none⟩ v2).setCell ⟨nb, 3, none⟩ v3).setCell ⟨nb, 4, none⟩ v4).cell? ⟨nb, 2, none⟩ = some v2 := by refine (World.cell?_setCell_other _ _ _ _ (ne 4 2 (by omega))).trans ?_; refine (World.cell?_setCell_other _ _ _ _ (ne 3 2 (by omega))).trans ?_; exact h2
  have k3 : (((((w3.setCell ⟨nb, 0, none⟩ v0).setCell ⟨nb, 1, none⟩ v1).setCell ⟨nb, 2, none⟩ v2).setCell ⟨nb, 3, none⟩ v3).setCell ⟨nb, 4, none⟩ v4).cell? ⟨nb, 3, none⟩ = some v3 := by refine (World.cell?_setCell_other _ _ _ _ (ne 4 3 (by omega))).trans ?_; exact h3
  have k4 : (((((w3.setCell ⟨nb, 0, none⟩ v0).setCell ⟨nb, 1, none⟩ v1).setCell ⟨nb, 2, none⟩ v2).setCell ⟨nb, 3, none⟩ v3).setCell ⟨nb, 4, none⟩ v4).cell? ⟨nb, 4, none⟩ = some v4 := by exact h4
  exact ⟨k0, k1, k2, k3, k4⟩
theorem old_box4 {w2 w3 : World} {b : Nat} {z0 z1 z2 z3 : Value} (hb : Below w2.heap.size w2 w3)
    (c : w2.cell? ⟨b, 0, none⟩ = some z0 ∧ w2.cell? ⟨b, 1, none⟩ = some z1 ∧ w2.cell? ⟨b, 2, none⟩ = some z2 ∧ w2.cell? ⟨b, 3, none⟩ = some z3)
    (f : w2.frozen? ⟨b, 0, none⟩ = false ∧ w2.frozen? ⟨b, 1, none⟩ = false ∧ w2.frozen? ⟨b, 2, none⟩ = false ∧ w2.frozen? ⟨b, 3, none⟩ = false) (hl : b < w2.heap.size) :
    (w3.cell? ⟨b, 0, none⟩ = some z0 ∧ w3.cell? ⟨b, 1, none⟩ = some z1 ∧ w3.cell? ⟨b, 2, none⟩ = some z2 ∧ w3.cell? ⟨b, 3, none⟩ = some z3) ∧
    (w3.frozen? ⟨b, 0, none⟩ = false ∧ w3.frozen? ⟨b, 1, none⟩ = false ∧ w3.frozen? ⟨b, 2, none⟩ = false ∧ w3.frozen? ⟨b, 3, none⟩ = false) ∧ b < w3.heap.size :=
  ⟨⟨below_cell hb rfl c.1, below_cell hb rfl c.2.1, below_cell hb rfl c.2.2.1, below_cell hb rfl c.2.2.2⟩,
   ⟨((bcell hb).2 _ _ hl).trans f.1, ((bcell hb).2 _ _ hl).trans f.2.1, ((bcell hb).2 _ _ hl).trans f.2.2.1, ((bcell hb).2 _ _ hl).trans f.2.2.2⟩, Nat.lt_of_lt_of_le hl hb.size⟩

theorem grown_trans0 {a b c : World} {row : Option Nat} (h1 : a.grownBy b row) (h2 : b.grownBy c row) : a.grownBy c row :=
  ⟨h2.os.trans h1.os, h2.tape.trans h1.tape, h2.output.trans h1.output, Nat.le_trans h1.size h2.size, fun i hi hn => (h2.block i (Nat.lt_of_lt_of_le hi h1.size) hn).trans (h1.block i hi hn)⟩
theorem ret_num {k : IntKind} {a b : Int} (h : a = b) : Value.int k a = .int k b := by rw [h]

theorem below_step {w W W' : World} (h : Below w.heap.size w W) (k : Below W.heap.size W W') : Below w.heap.size w W' := h.trans (k.mono h.size)
theorem Mid.rd {w w' : World} {lo hi n sz : Nat} {v : Value} {xs : List Value} (h : Mid lo hi w w') (hr : Rd w v n sz xs) (hb : ∀ a m c, v = .slice (some a) m c → a.block < lo ∨ hi ≤ a.block) : Rd w' v n sz xs := by
  refine ⟨hr.1, ?_⟩
  rcases hr.2 with h0 | ⟨b, off, cap, rfl, h2, h3, h4, h5⟩
  · exact .inl h0
  · exact .inr ⟨b, off, cap, rfl, Nat.lt_of_lt_of_le h2 h.size, h3, h4, fun j u hj => h.cell (hb _ _ _ rfl) (h5 j u hj)⟩

theorem take_next (zs : List Int) (k : Nat) (h : k < zs.length) : zs.take (k + 1) = zs.take k ++ [zs.getD k 0] := by
  rw [List.take_succ_eq_append_getElem h]
  simp [List.getD, h]

theorem RdI.cases {w : World} {v : Value} {zs : List Int} (h : RdI w v zs) : ((∃ a cap, v = .slice a 0 cap) ∧ zs = []) ∨
    ∃ b off cap, v = .slice (some ⟨b, off, none⟩) zs.length cap ∧ b < w.heap.size ∧ zs.length ≤ cap ∧ cap ≤ 9223372036854775807 ∧ ∀ j, j < zs.length → w.cell? ⟨b, off + j, none⟩ = some (.int .i64 (zs.getD j 0)) := by
  rcases h.2 with ⟨h0, h1⟩ | ⟨b, off, cap, h1, h2, h3, h4, h5⟩
  · exact .inl ⟨h0, List.eq_nil_of_length_eq_zero h1⟩
  · refine .inr ⟨b, off, cap, h1, h2, h3, h4, fun j hj => h5 j _ ?_⟩
    simp [List.getD, hj]
theorem RdI.form {w : World} {v : Value} {zs : List Int} (h : RdI w v zs) : ∃ a cap, v = .slice a zs.length cap ∧ zs.length ≤ 9223372036854775807 := by
  rcases h.cases with ⟨⟨a0, c0, rfl⟩, rfl⟩ | ⟨b, off, cap, rfl, _, h1, h2, _⟩
  · exact ⟨a0, c0, rfl, by simp⟩
  · exact ⟨_, _, rfl, by omega⟩
theorem RdI.cases0 {w : World} {v : Value} {zs : List Int} (h : RdI w v zs) : (zs = [] ∧ ∃ a cap, v = .slice a 0 cap) ∨
    (0 < zs.length ∧ ∃ b off cap, v = .slice (some ⟨b, off, none⟩) zs.length cap ∧ b < w.heap.size ∧ zs.length ≤ cap ∧ cap ≤ 9223372036854775807 ∧ ∀ j, j < zs.length → w.cell? ⟨b, off + j, none⟩ = some (.int .i64 (zs.getD j 0))) := by
  rcases h.cases with ⟨⟨a0, c0, rfl⟩, rfl⟩ | ⟨b, off, cap, rfl, h1, h2, h3, h4⟩
  · exact .inl ⟨rfl, a0, c0, rfl⟩
  · rcases Nat.eq_zero_or_pos zs.length with h0 | h0
    · exact .inl ⟨List.eq_nil_of_length_eq_zero h0, _, _, by rw [h0]⟩
    · exact .inr ⟨h0, b, off, cap, rfl, h1, h2, h3, h4⟩
end Go.Proofs.Ytbcjligkjoimmaa
namespace Go.Proofs.Ytbcjligkjoimmaa
set_option linter.unusedSimpArgs false
set_option linter.unusedVariables false
set_option linter.unnecessarySimpa false
set_option maxRecDepth 200000
open Go.ChangeShapes Go.WideShapes Go.ChangeAt Go.RowKit

structure E2 where (a b : Int)
deriving DecidableEq
structure E3 where (a b c : Int)
deriving DecidableEq
structure E4 where (a b c d : Int)
deriving DecidableEq
structure EW where (a b : Int) (h : Bool)
deriving DecidableEq
def E2.cs (x : E2) : List Value := [.int .i64 x.a, .int .i64 x.b]
def E3.cs (x : E3) : List Value := [.int .i64 x.a, .int .i64 x.b, .int .i64 x.c]
def E4.cs (x : E4) : List Value := [.int .i64 x.a, .int .i64 x.b, .int .i64 x.c, .int .i64 x.d]
def EW.cs (x : EW) : List Value := [.int .i64 x.a, .int .i64 x.b, .bool x.h]

theorem E2.len (x : E2) : x.cs.length = 2 := rfl
theorem E3.len (x : E3) : x.cs.length = 3 := rfl
theorem E4.len (x : E4) : x.cs.length = 4 := rfl
theorem EW.len (x : EW) : x.cs.length = 3 := rfl

section
variable {α : Type} {f : α → List Value} {sz : Nat}
theorem flat_len (hf : ∀ x, (f x).length = sz) (xs : List α) : (xs.flatMap f).length = xs.length * sz := by
  induction xs with
  | nil => simp
  | cons x xs ih => simp [hf, ih, Nat.add_mul]; omega
theorem flat_get (hf : ∀ x, (f x).length = sz) : ∀ (xs : List α) (i j : Nat) (hi : i < xs.length), j < sz → (xs.flatMap f)[i * sz + j]? = (f xs[i])[j]?
  | [], _, _, hi, _ => by simp at hi
  | x :: xs, 0, j, _, hj => by
    simp only [List.flatMap_cons, Nat.zero_mul, Nat.zero_add, List.getElem_cons_zero]
    rw [List.getElem?_append_left (by rw [hf]; exact hj)]
  | x :: xs, i + 1, j, hi, hj => by
    simp only [List.flatMap_cons, List.getElem_cons_succ]
    rw [List.getElem?_append_right (by rw [hf, Nat.add_mul]; omega), hf]
    have e : (i + 1) * sz + j - sz = i * sz + j := by rw [Nat.add_mul]; omega
    rw [e]
    exact flat_get hf xs i j (by simpa using hi) hj

/-- A slice value that reads as the elements xs, each of sz cells. -/
def RdE (w : World) (v : Value) (f : α → List Value) (sz : Nat) (xs : List α) : Prop := Rd w v xs.length sz (xs.flatMap f)
/-- A slice of such elements that the call itself has made. -/
def OwnE (w : World) (base : Nat) (e : TypeId) (v : Value) (f : α → List Value) (sz : Nat) (xs : List α) : Prop := w.ownsRow base e sz v xs.length (xs.flatMap f)
theorem OwnE.rd {w : World} {base : Nat} {e : TypeId} {v : Value} {xs : List α} (h : OwnE w base e v f sz xs) : RdE w v f sz xs := Rd.of_own h
theorem OwnE.below {w w' : World} {base B : Nat} {e : TypeId} {v : Value} {xs : List α} (h : OwnE w base e v f sz xs) (hb : Below B w w') (hB : B = w.heap.size) : OwnE w' base e v f sz xs := own_below h hb hB
theorem OwnE.set {w : World} {base : Nat} {e : TypeId} {v : Value} {xs : List α} (h : OwnE w base e v f sz xs) {a : Addr} (ha : a.block < base) (u : Value) : OwnE (w.setCell a u) base e v f sz xs := ownsRow_setCell_below h ha u
theorem OwnE.lt {w : World} {base : Nat} {e : TypeId} {v : Value} {xs : List α} (h : OwnE w base e v f sz xs) : ∀ k, v.ownBlock = some k → base ≤ k ∧ k < w.heap.size := World.ownsRow.lt h
theorem OwnE.le {w : World} {base base' : Nat} {e : TypeId} {v : Value} {xs : List α} (h : OwnE w base e v f sz xs) (hb : base' ≤ base) : OwnE w base' e v f sz xs := own_le h hb
theorem OwnE.nil (w : World) (base : Nat) (e : TypeId) : OwnE w base e (.slice none 0 0) f sz ([] : List α) := World.ownsRow_nil _ _ _ _
theorem OwnE.forms {w : World} {base : Nat} {e : TypeId} {v : Value} {xs : List α} (h : OwnE w base e v f sz xs) : ∃ a cap, v = .slice a xs.length cap := by
  rcases Go.Joins.ownsRow_forms h with ⟨rfl, h0⟩ | ⟨g, cap, rfl⟩
  · exact ⟨none, 0, by rw [h0]⟩
  · exact ⟨_, _, rfl⟩
theorem RdE.below {w w' : World} {B : Nat} {v : Value} {xs : List α} (h : RdE w v f sz xs) (hb : Below B w w') (hB : B = w.heap.size) : RdE w' v f sz xs := Rd.below h hb hB
theorem RdE.form {w : World} {v : Value} {xs : List α} (h : RdE w v f sz xs) : ∃ a cap, v = .slice a xs.length cap ∧ xs.length ≤ 9223372036854775807 := by
  rcases h.2 with ⟨⟨a0, c0, rfl⟩, h0⟩ | ⟨b, off, cap, rfl, _, h1, h2, _⟩
  · exact ⟨a0, c0, by rw [h0], by omega⟩
  · exact ⟨_, _, rfl, by omega⟩
theorem RdE.cases0 {w : World} {v : Value} {xs : List α} (hf : ∀ x, (f x).length = sz) (h : RdE w v f sz xs) : (xs = [] ∧ ∃ a cap, v = .slice a 0 cap) ∨
    (0 < xs.length ∧ ∃ b off cap, v = .slice (some ⟨b, off, none⟩) xs.length cap ∧ b < w.heap.size ∧ xs.length ≤ cap ∧ cap ≤ 9223372036854775807 ∧ ∀ i (hi : i < xs.length) j u, j < sz → (f xs[i])[j]? = some u → w.cell? ⟨b, off + (i * sz + j), none⟩ = some u) := by
  rcases h.2 with ⟨⟨a0, c0, rfl⟩, h0⟩ | ⟨b, off, cap, rfl, h1, h2, h3, h4⟩
  · exact .inl ⟨List.eq_nil_of_length_eq_zero h0, a0, c0, rfl⟩
  · rcases Nat.eq_zero_or_pos xs.length with h0 | h0
    · exact .inl ⟨List.eq_nil_of_length_eq_zero h0, _, _, by rw [h0]⟩
    · exact .inr ⟨h0, b, off, cap, rfl, h1, h2, h3, fun i hi j u hj hu => h4 _ u (by rw [flat_get hf xs i j hi hj]; exact hu)⟩
end
theorem own_lit0 {α : Type} {f : α → List Value} {sz : Nat} (w : World) (base : Nat) (e : TypeId) (g : Nat) (hg : g = w.heap.size) (hb : base ≤ g) : OwnE (w.alloc (.cells #[] e)) base e (.slice (some ⟨g, 0, none⟩) 0 0) f sz ([] : List α) := by
  subst hg
  refine ⟨by simp, .inr ⟨w.heap.size, 0, #[], rfl, hb, ?_, Nat.le_refl _, Nat.zero_le _, by simp, by simp⟩⟩
  show (w.heap.push _)[w.heap.size]? = _
  simp
theorem take_nextE {α : Type} (xs : List α) (k : Nat) (h : k < xs.length) : xs.take (k + 1) = xs.take k ++ [xs[k]] := List.take_succ_eq_append_getElem h
theorem eqE_step {α : Type} {xs ys : List α} {k : Nat} (h : Hid (xs.take k = ys.take k)) (h1 : k < xs.length) (h2 : k < ys.length) (he : xs[k] = ys[k]) : Hid (xs.take (k + 1) = ys.take (k + 1)) := by
  show _ = _
  rw [take_nextE xs k h1, take_nextE ys k h2, h.out, he]
theorem eqE_fail {α : Type} [DecidableEq α] {xs ys : List α} {k : Nat} (h1 : k < xs.length) (h2 : k < ys.length) (he : ¬ xs[k] = ys[k]) : false = decide (xs = ys) := by
  symm; rw [decide_eq_false_iff_not]; rintro rfl; exact he rfl
theorem eqE_end {α : Type} [DecidableEq α] {xs ys : List α} {k : Nat} (h : Hid (xs.take k = ys.take k)) (h1 : xs.length ≤ k) (h2 : ys.length ≤ k) : true = decide (xs = ys) := by
  have h := h.out
  rw [List.take_of_length_le h1, List.take_of_length_le h2] at h
  simp [h]
/-- What a function that answers a list of gates and 'ok' leaves: the gates in a block of its own. -/
def SlPost {α : Type} (f : α → List Value) (sz : Nat) (t : TypeId) (w : World) (r : Option (List α)) (e : Ending) (w' : World) : Prop :=
  ∃ v, e = .returned (.tuple #[v, .bool r.isSome]) ∧ OwnE w' w.heap.size t v f sz (r.getD []) ∧ Below w.heap.size w w'
theorem SlPost.none {α : Type} {f : α → List Value} {sz : Nat} {t : TypeId} {w w' : World} {r : Option (List α)} (hr : r = none) (hb : Below w.heap.size w w') : SlPost f sz t w r (.returned (.tuple #[.slice none 0 0, .bool false])) w' := by
  subst hr; exact ⟨_, rfl, OwnE.nil _ _ _, hb⟩
theorem SlPost.some {α : Type} {f : α → List Value} {sz : Nat} {t : TypeId} {w w' : World} {r : Option (List α)} {xs : List α} {v : Value} (hr : r = some xs) (ho : OwnE w' w.heap.size t v f sz xs) (hb : Below w.heap.size w w') : SlPost f sz t w r (.returned (.tuple #[v, .bool true])) w' := by
  subst hr; exact ⟨_, rfl, ho, hb⟩

end Go.Proofs.Ytbcjligkjoimmaa
