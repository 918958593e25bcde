/- General lemmas, over any program: a law's statement out of a contract of its function; small words for results. -/
import Derived.Test.YtliophgfgmjhiaaGreatDoorRows
import Derived.WalkKit
import Derived.ProofKit
import Derived.OpenShut
import Derived.Outline
import Derived.BigGuardPart
import Derived.Lib.Hide
import Derived.ChangeOld
import Derived.Below
import Derived.Carry
import Derived.Lib.SmallJoins
import Derived.Deep.Slices
import Derived.Deep.Fields
import Derived.OwnWalk
import Derived.Laws.MakeOwn
import Derived.Deep.Light
import Derived.BigQuiet
import Derived.Deep.QuietTactic
import Derived.Deep.RegionLaw
import Derived.Deep.RegionHeld3
import Derived.Deep.AppendLies
import Derived.Deep.DrawnRows
import Derived.Deep.DeepFit
import Derived.Deep.DeepMust
import Derived.ChangeSlices
import Derived.ChangeSame
namespace Go.Proofs.YtliophgfgmjhiaaGreatDoor
set_option linter.unusedSimpArgs false
set_option linter.unusedVariables false
set_option linter.unnecessarySimpa false
set_option maxRecDepth 200000
open Go.ChangeShapes Go.WideShapes Go.ChangeAt Go.RowKit

theorem ret_int {k : IntKind} {a b : Int} (h : a = b) : Ending.returned (.int k a) = .returned (.int k b) := by rw [h]
theorem ret_bool {a b : Bool} (h : a = b) : Ending.returned (.bool a) = .returned (.bool b) := by rw [h]

theorem below_drewN {B : Nat} {a w : World} (h : Below B a w) (n : Nat) : Below B a (w.drewN n) := ⟨h.os, h.tape, h.output, h.size, h.block⟩
theorem bcell {W w1 : World} (hb : Below W.heap.size W w1) : (∀ b o, b < W.heap.size → w1.cell? ⟨b, o, none⟩ = W.cell? ⟨b, o, none⟩) ∧ (∀ b o, b < W.heap.size → w1.frozen? ⟨b, o, none⟩ = W.frozen? ⟨b, o, none⟩) :=
  ⟨fun b o h => hb.cell (p := ⟨b, o, none⟩) h, fun b o h => hb.frozen (p := ⟨b, o, none⟩) h⟩

theorem own : ownKnob Tryz.prog.godebug = none := by kernel_rfl
theorem laidOut : laidOutB Tryz.prog = true := by kernel_rfl

section
variable {H : Type} {enc : TypeId × Value → H}

theorem below_trodAll {P : Program} (hl : laidOutB P = true) {W W' : World} (hb : Below W.heap.size W W') :
    ∀ {ts : List TypeId} {vs : List Value} {ds : List (DataW H)} {p : List MemPlace}, (∀ t ∈ ts, P.readableRec t = true ∧ t < P.types.size) →
    DataW.TrodAll enc P W 0 (fun _ => true) true ts vs ds p → DataW.TrodAll enc P W' 0 (fun b => decide (b < W.heap.size)) true ts vs ds p
  | [], [], [], _, _, h => h
  | t :: ts, v :: vs, d :: ds, p, hr, h => by
    obtain ⟨p1, q1, h1, h2, rfl⟩ := h
    have lt : ∀ x ∈ p1, x.block < W.heap.size := by obtain ⟨m, hm⟩ := h1; exact DataW.trod_lt m _ _ _ hm
    exact ⟨p1, q1, Below.trod hl (hr t (by simp)).1 (hr t (by simp)).2 h1 hb lt, below_trodAll hl hb (fun u hu => hr u (by simp [hu])) h2, rfl⟩
  | [], _ :: _, _, _, _, h => by cases h
  | [], [], _ :: _, _, _, h => by cases h
  | _ :: _, [], _, _, _, h => by cases h
  | _ :: _, _ :: _, [], _, _, h => by cases h

theorem trodAll_len {P : Program} {W : World} {b : Nat} {sp : Nat → Bool} {hd : Bool} :
    ∀ {ts : List TypeId} {vs : List Value} {ds : List (DataW H)} {p : List MemPlace}, DataW.TrodAll enc P W b sp hd ts vs ds p → ds.length = ts.length
  | [], [], [], _, _ => rfl
  | _ :: ts, _ :: vs, _ :: ds, _, h => by
    obtain ⟨_, _, _, h2, _⟩ := h
    simp [trodAll_len h2]
  | [], _ :: _, _, _, h => by cases h
  | [], [], _ :: _, _, h => by cases h
  | _ :: _, [], _, _, h => by cases h
  | _ :: _, _ :: _, [], _, h => by cases h

theorem law_lifted {C : Checked} {os : Os} {f : FuncId} {fn : Func} {s : ChangeSpec} {conds : List PathCond}
    (own : ownKnob C.prog.godebug = none) (started : os.Started) (noInit : C.prog.inits.idxOf? f = none) (hfn : C.prog.funcs[f]? = some fn)
    (hvars : s.vars = []) (hl : laidOutB C.prog = true) (hread : ∀ t ∈ fn.params.toList, C.prog.readableRec t = true ∧ t < C.prog.types.size)
    {tb : TypeId} (hres : fn.resultTypes = #[tb]) (htb : C.prog.underlying tb = some .bool)
    (hs : ∀ ds : List (DataW H), ds.length = fn.params.size → s.fn H ds = { results := [.lit (.bool true)], args := ds })
    (witness : ∃ (w : World) (tape : Tape) (i : Input), w.os = os ∧ (w.forCall tape i).Shaped C.prog ∧ i.vars = [] ∧ Input.okWide C.prog (w.forCall tape i) .any w.heap.size f i ∧
      s.pre6 enc C.prog fn conds false (w.forCall tape i).memory i.args ∧ ({} : Assume).holds C.prog (lone (Frame.enter C.prog f i.args .normal) [] (w.forCall tape i)))
    (walk : ∀ (W : World) (base : Nat) (args : Array Value) (ds : List (DataW H)) (p : List MemPlace),
      (∀ (j : Nat) t v, fn.params[j]? = some t → args[j]? = some v → Value.okWide C.prog W .any base t v) →
      DataW.TrodAll enc C.prog W 0 (fun _ => true) true fn.params.toList args.toList ds p →
      Calls C.prog f args W fun e w' => e = .returned (.bool true) ∧ Below W.heap.size W w') :
    ReturnsInHanded {} C os f .any (s.pre6 enc C.prog fn conds false) (s.post enc C.prog fn false true false false) := by
  refine returnsInHanded_of_change (C := C) own started noInit hfn witness ?_
  intro W base args ds gs before hval hW hcnd _
  have hW' := hW
  obtain ⟨p, q, hA, hV, rfl, hfz, hnd⟩ := hW
  rw [hvars] at hV
  have hgs : gs = [] ∧ q = [] := by
    cases gs with
    | nil => exact ⟨rfl, hV⟩
    | cons => cases hV
  obtain ⟨rfl, rfl⟩ := hgs
  refine (walk W base args ds p hval hA).mono fun e W' ⟨he, bel⟩ => ?_
  subst he
  have hlen : ds.length = fn.params.size := by simpa using trodAll_len hA
  refine ⟨_, rfl, ds, [], _, [], p, [], hW', ?_, ?_, ?_, bel.frame _, fun h => by cases h⟩
  · rw [List.append_nil, hs ds hlen, hres]
    exact trodAll_mk1 (shut_bool htb _)
  · rw [List.append_nil, hs ds hlen]
    exact below_trodAll hl bel hread hA
  · rw [hvars, List.append_nil, hs ds hlen]
    rfl
end
end Go.Proofs.YtliophgfgmjhiaaGreatDoor
namespace Go.Proofs.YtliophgfgmjhiaaGreatDoor
set_option linter.unusedSimpArgs false
set_option linter.unusedVariables false
set_option linter.unnecessarySimpa false
set_option maxRecDepth 200000
open Go.ChangeShapes Go.WideShapes Go.ChangeAt Go.RowKit

/-- A slice value of n elements of sz cells each, which reads as the cells xs. -/
def Rd (w : World) (v : Value) (n sz : Nat) (xs : List Value) : Prop :=
  xs.length = n * sz ∧ (((∃ a cap, v = .slice a 0 cap) ∧ n = 0) ∨ ∃ b off cap, v = .slice (some ⟨b, off, none⟩) n cap ∧ b < w.heap.size ∧ n ≤ cap ∧ cap ≤ 9223372036854775807 ∧ ∀ j u, xs[j]? = some u → w.cell? ⟨b, off + j, none⟩ = some u)
/-- The same for whole numbers. -/
def RdI (w : World) (v : Value) (zs : List Int) : Prop := Rd w v zs.length 1 (zs.map (Value.int .i64))

section
variable {w w' : World} {v : Value} {n sz : Nat} {xs : List Value} {base : Nat} {e : TypeId}
theorem Rd.below {B : Nat} (h : Rd w v n sz xs) (hb : Below B w w') (hB : B = w.heap.size) : Rd w' v n sz xs := by
  subst hB
  refine ⟨h.1, ?_⟩
  rcases h.2 with h0 | ⟨b, off, cap, h1, h2, h3, h4, h5⟩
  · exact .inl h0
  · exact .inr ⟨b, off, cap, h1, Nat.lt_of_lt_of_le h2 hb.size, h3, h4, fun j u hj => by rw [hb.cell (p := ⟨b, off + j, none⟩) h2]; exact h5 j u hj⟩
theorem Rd.of_own (h : w.ownsRow base e sz v n xs) : Rd w v n sz xs := by
  refine ⟨h.1, ?_⟩
  rcases h.2 with h0 | ⟨g, cap, cur, rfl, hbg, hg, hnc, hcm, hcs, htake⟩
  · exact .inl ⟨⟨none, 0, h0.1⟩, h0.2⟩
  · refine .inr ⟨g, 0, cap, rfl, (Array.getElem?_eq_some_iff.1 hg).1, hnc, by simpa [maxLen] using hcm, fun j u hj => ?_⟩
    have := World.ownsRow.cells h (g := g) rfl j u hj
    rw [Nat.zero_add]
    have hadd : (⟨g, 0, none⟩ : Addr).add j = ⟨g, j, none⟩ := by unfold Addr.add; split <;> simp_all
    rw [← hadd]; exact this
theorem own_below {B : Nat} (h : w.ownsRow base e sz v n xs) (hb : Below B w w') (hB : B = w.heap.size) : w'.ownsRow base e sz v n xs := by
  subst hB
  refine ⟨h.1, ?_⟩
  rcases h.2 with h0 | ⟨g, cap, cur, rfl, hbg, hg, r⟩
  · exact .inl h0
  · exact .inr ⟨g, cap, cur, rfl, hbg, by rw [hb.block g (Array.getElem?_eq_some_iff.1 hg).1]; exact hg, r⟩
theorem own_le {base' : Nat} (h : w.ownsRow base e sz v n xs) (hb : base' ≤ base) : w.ownsRow base' e sz v n xs :=
  ⟨h.1, h.2.elim Or.inl (fun ⟨g, cap, cur, hv, hg, r⟩ => Or.inr ⟨g, cap, cur, hv, Nat.le_trans hb hg, r⟩)⟩
/-- Only the blocks of one slice may have changed. -/
theorem below_of_grown {row : Option Nat} {B : Nat} (hg : w.grownBy w' row) (hB : B ≤ w.heap.size) (hr : ∀ k, row = some k → B ≤ k) : Below B w w' :=
  (Below.refl B w).grown hg hB hr
end

theorem grown_old {w w' : World} {v : Value} {base sz n b o : Nat} {e : TypeId} {xs : List Value} (hown : w.ownsRow base e sz v n xs) (hg : w.grownBy w' v.ownBlock) (hb : b < base) (hlt : b < w.heap.size) :
    w'.cell? ⟨b, o, none⟩ = w.cell? ⟨b, o, none⟩ ∧ w'.frozen? ⟨b, o, none⟩ = w.frozen? ⟨b, o, none⟩ := by
  have hblk : w'.heap[b]? = w.heap[b]? := hg.block b hlt (fun e => by
    have := (hown.lt b e.symm).1
    omega)
  exact ⟨World.cell?_of_block (w := w) (a := ⟨b, o, none⟩) hblk, World.frozen?_of_block (w := w) (a := ⟨b, o, none⟩) hblk⟩
theorem grown_keep {w w' : World} {v u : Value} {base sz n b o : Nat} {e : TypeId} {xs : List Value} (X : Obj) (hown : w.ownsRow base e sz v n xs) (hg : (w.alloc X).grownBy w' v.ownBlock) (hc : w.cell? ⟨b, o, none⟩ = some u) (hf : w.frozen? ⟨b, o, none⟩ = false) (hb : b < base) :
    w'.cell? ⟨b, o, none⟩ = some u ∧ w'.frozen? ⟨b, o, none⟩ = false := by
  have hlt : b < w.heap.size := World.block_lt_of_cell? w ⟨b, o, none⟩ hc
  have h := grown_old (o := o) (hown.alloc X) hg hb (by simp; omega)
  rw [World.cell?_of_block (w := w) (w' := w.alloc X) (a := ⟨b, o, none⟩) (Below.heap_alloc w X b hlt), World.frozen?_of_block (w := w) (w' := w.alloc X) (a := ⟨b, o, none⟩) (Below.heap_alloc w X b hlt)] at h
  exact ⟨h.1.trans hc, h.2.trans hf⟩
theorem cell_alloc_keep {w : World} {b o : Nat} {u : Value} (X : Obj) (hc : w.cell? ⟨b, o, none⟩ = some u) : (w.alloc X).cell? ⟨b, o, none⟩ = some u := by
  have hlt : b < w.heap.size := World.block_lt_of_cell? w ⟨b, o, none⟩ hc
  rw [World.cell?_of_block (w := w) (w' := w.alloc X) (a := ⟨b, o, none⟩) (Below.heap_alloc w X b hlt)]; exact hc
theorem cell_alloc_swap {w : World} {b o : Nat} {u : Value} (X Y : Obj) (hb : b < w.heap.size) (hc : (w.alloc Y).cell? ⟨b, o, none⟩ = some u) : (w.alloc X).cell? ⟨b, o, none⟩ = some u := by
  rw [World.cell?_of_block (w := w) (w' := w.alloc Y) (a := ⟨b, o, none⟩) (Below.heap_alloc w Y b hb)] at hc
  rw [World.cell?_of_block (w := w) (w' := w.alloc X) (a := ⟨b, o, none⟩) (Below.heap_alloc w X b hb)]; exact hc
theorem cell_set_keep {w : World} {nb b o o2 : Nat} {u v : Value} (hb : b < nb) (hc : w.cell? ⟨b, o, none⟩ = some u) : (w.setCell ⟨nb, o2, none⟩ v).cell? ⟨b, o, none⟩ = some u :=
  ((Below.setCell (p := ⟨nb, o2, none⟩) (Below.refl nb w) (Nat.le_refl _) v).cell (p := ⟨b, o, none⟩) hb).trans hc
theorem frozen_alloc_keep {w : World} {b o : Nat} {u : Value} (X : Obj) (hc : w.cell? ⟨b, o, none⟩ = some u) (hf : w.frozen? ⟨b, o, none⟩ = false) : (w.alloc X).frozen? ⟨b, o, none⟩ = false := by
  have hlt : b < w.heap.size := World.block_lt_of_cell? w ⟨b, o, none⟩ hc
  rw [World.frozen?_of_block (w := w) (w' := w.alloc X) (a := ⟨b, o, none⟩) (Below.heap_alloc w X b hlt)]; exact hf
theorem frozen_alloc_lt {w : World} {b o : Nat} (X : Obj) (h : b < w.heap.size) (hf : w.frozen? ⟨b, o, none⟩ = false) : (w.alloc X).frozen? ⟨b, o, none⟩ = false := by
  rw [World.frozen?_of_block (w := w) (w' := w.alloc X) (a := ⟨b, o, none⟩) (Below.heap_alloc w X b h)]; exact hf
theorem grown_same {w w' : World} {v u : Value} {base sz n b o : Nat} {e : TypeId} {xs : List Value} (hown : w.ownsRow base e sz v n xs) (hg : w.grownBy w' v.ownBlock) (hc : w.cell? ⟨b, o, none⟩ = some u) (hf : w.frozen? ⟨b, o, none⟩ = false) (hb : b < base) :
    w'.cell? ⟨b, o, none⟩ = some u ∧ w'.frozen? ⟨b, o, none⟩ = false := by
  have hlt : b < w.heap.size := World.block_lt_of_cell? w ⟨b, o, none⟩ hc
  have h := grown_old (o := o) hown hg hb hlt
  exact ⟨h.1.trans hc, h.2.trans hf⟩
theorem grown_below {w0 w w' : World} {v : Value} {B base sz n : Nat} {e : TypeId} {xs : List Value} (h : Below B w0 w) (hown : w.ownsRow base e sz v n xs) (hg : w.grownBy w' v.ownBlock) (hB : B ≤ base) (hBw : B ≤ w.heap.size) : Below B w0 w' :=
  h.grown hg hBw (fun k hk => Nat.le_trans hB (hown.lt k hk).1)
theorem news_cells (w : World) (us : List Value) (t : TypeId) : ∀ (j : Nat) (u : Value), us[j]? = some u → (w.alloc (.cells us.toArray t)).cell? ((⟨w.heap.size, 0, none⟩ : Addr).add j) = some u := by
  intro j u h
  have hadd : (⟨w.heap.size, 0, none⟩ : Addr).add j = ⟨w.heap.size, j, none⟩ := by unfold Addr.add; split <;> simp_all
  rw [hadd, World.cell?_alloc_at _ _ _ _ rfl]
  simpa using h
/-- 'append' to a slice of the call's own, of one element or more: what comes out shows what it is. -/
theorem wpList_append_some {P : Program} (w : World) {ops : Array Oper} {rest : List Oper} {o : Oper} {a : Act} {Q : Exit → Act → World → Prop} (hgd : o.guard = none) (s x : Operand) (t : TypeId)
    (ho : o.op = .call { callee := .builtin .append, args := #[s, x], argTypes := #[t, t] })
    (base : Nat) (e : TypeId) (i : TypeInfo) (z : Value) (size bytes : Nat) (ht : P.underlying t = some (.slice e)) (hi : P.info? e = some i) (hz : i.zero = some z)
    (hsize : i.size = size) (hby : i.bytes = bytes) (hzs : z.cells.size = size) (hsz : 0 < size)
    (v : Value) (n : Nat) (xs : List Value) (hs : a.eval s = v) (hown : w.ownsRow base e size v n xs)
    (ad : Addr) (m c : Nat) (news : List Value) (hx : a.eval x = .slice (some ad) m c) (hl : news.length = m * size) (hnews : ∀ j u, news[j]? = some u → w.cell? (ad.add j) = some u) (h1 : ∀ u ∈ news, u.oneCell' = true)
    (h63 : n + m ≤ maxLen) (hbytes : (n + m) * bytes ≤ 140737488355328) (hbase : base ≤ w.heap.size) (hm : 0 < m)
    (h : ∀ g cap w', w'.ownsRow base e size (.slice (some ⟨g, 0, none⟩) (n + m) cap) (n + m) (xs ++ news) → base ≤ g → w.grownBy w' v.ownBlock → w.heap.size ≤ w'.heap.size → wpList P ops Q rest (a.put o.dst (.slice (some ⟨g, 0, none⟩) (n + m) cap)) w') : wpList P ops Q (o :: rest) a w := by
  refine wpList_append_own w hgd s x t ho base e i z size bytes ht hi hz hsize hby hzs hsz v n xs hs hown ad m c news hx hl hnews h1 h63 hbytes hbase ?_
  intro v' w' ho' hg' _
  obtain ⟨g, cap, rfl⟩ := Go.Joins.ownsRow_form ho' (by omega)
  exact h g cap w' ho' (ho'.lt g rfl).1 hg' hg'.size

/-- Outside the blocks from lo up to hi nothing that was there has changed. -/
structure Mid (lo hi : Nat) (w w' : World) : Prop where
  os : w'.os = w.os
  tape : w'.tape = w.tape
  output : w'.output = w.output
  size : w.heap.size ≤ w'.heap.size
  block : ∀ k, k < w.heap.size → (k < lo ∨ hi ≤ k) → w'.heap[k]? = w.heap[k]?
theorem Mid.of_grown {w w' : World} {row : Option Nat} {lo hi : Nat} (h : w.grownBy w' row) (hr : ∀ k, row = some k → lo ≤ k ∧ k < hi) : Mid lo hi w w' :=
  ⟨h.os, h.tape, h.output, h.size, fun k hk hkk => h.block k hk (fun e => by have := hr k e.symm; omega)⟩
theorem Mid.of_below {w w' : World} {lo hi B : Nat} (h : Below B w w') (hB : B = w.heap.size) : Mid lo hi w w' := by
  subst hB
  exact ⟨h.os, h.tape, h.output, h.size, fun k hk _ => h.block k hk⟩
theorem Mid.trans {w w' w'' : World} {lo hi : Nat} (h : Mid lo hi w w') (k : Mid lo hi w' w'') : Mid lo hi w w'' :=
  ⟨k.os.trans h.os, k.tape.trans h.tape, k.output.trans h.output, Nat.le_trans h.size k.size, fun i hi hh => (k.block i (Nat.lt_of_lt_of_le hi h.size) hh).trans (h.block i hi hh)⟩
theorem Mid.alloc (w : World) (lo hi : Nat) (o : Obj) : Mid lo hi w (w.alloc o) := .of_below ((Below.refl w.heap.size w).alloc (Nat.le_refl _) o) rfl
theorem Mid.below {w w' : World} {lo hi B : Nat} (h : Mid lo hi w w') (hB : B ≤ lo) (hBw : B ≤ w.heap.size) : Below B w w' :=
  ⟨h.os, h.tape, h.output, h.size, fun k hk => h.block k (by omega) (.inl (by omega))⟩
theorem Mid.cell {w w' : World} {lo hi b o : Nat} {u : Value} (h : Mid lo hi w w') (hb : b < lo ∨ hi ≤ b) (hc : w.cell? ⟨b, o, none⟩ = some u) : w'.cell? ⟨b, o, none⟩ = some u := by
  have hlt : b < w.heap.size := World.block_lt_of_cell? w ⟨b, o, none⟩ hc
  rw [World.cell?_of_block (w := w) (a := ⟨b, o, none⟩) (h.block b hlt hb)]; exact hc
theorem Mid.own {w w' : World} {lo hi base sz n : Nat} {e : TypeId} {v : Value} {xs : List Value} (h : Mid lo hi w w') (ho : w.ownsRow base e sz v n xs) (hb : ∀ g, v.ownBlock = some g → g < lo ∨ hi ≤ g) : w'.ownsRow base e sz v n xs := by
  refine ⟨ho.1, ?_⟩
  rcases ho.2 with h0 | ⟨g, cap, cur, rfl, hbg, hg, r⟩
  · exact .inl h0
  · exact .inr ⟨g, cap, cur, rfl, hbg, by rw [h.block g (Array.getElem?_eq_some_iff.1 hg).1 (hb g rfl)]; exact hg, r⟩

theorem below_cell {w w' : World} {b o B : Nat} {u : Value} (h : Below B w w') (hB : B = w.heap.size) (hc : w.cell? ⟨b, o, none⟩ = some u) : w'.cell? ⟨b, o, none⟩ = some u := by
  subst hB
  exact (h.cell (p := ⟨b, o, none⟩) (World.block_lt_of_cell? w _ hc)).trans hc

theorem below_frz {w w' : World} {b o B : Nat} (h : Below B w w') (hB : B = w.heap.size) (hlt : b < w.heap.size) (hf : w.frozen? ⟨b, o, none⟩ = false) : w'.frozen? ⟨b, o, none⟩ = false := by
  subst hB
  exact (h.frozen (p := ⟨b, o, none⟩) hlt).trans hf

/-- A box of four cells, made ahead of a call: what the call leaves of it. -/
theorem new_box4 {w w3 : World} {z0 z1 z2 z3 : Value} {t : TypeId} (hb : Below (w.alloc (.cells #[z0, z1, z2, z3] t)).heap.size (w.alloc (.cells #[z0, z1, z2, z3] t)) w3) :
    (w3.cell? ⟨w.heap.size, 0, none⟩ = some z0 ∧ w3.cell? ⟨w.heap.size, 1, none⟩ = some z1 ∧ w3.cell? ⟨w.heap.size, 2, none⟩ = some z2 ∧ w3.cell? ⟨w.heap.size, 3, none⟩ = some z3) ∧
    (w3.frozen? ⟨w.heap.size, 0, none⟩ = false ∧ w3.frozen? ⟨w.heap.size, 1, none⟩ = false ∧ w3.frozen? ⟨w.heap.size, 2, none⟩ = false ∧ w3.frozen? ⟨w.heap.size, 3, none⟩ = false) ∧ w.heap.size < w3.heap.size := by
  have hs : w.heap.size < (w.alloc (.cells #[z0, z1, z2, z3] t)).heap.size := by simp
  have hc := fun o u h => below_cell (b := w.heap.size) (o := o) (u := u) hb rfl h
  obtain ⟨_, hf⟩ := bcell hb
  refine ⟨⟨hc 0 _ ?_, hc 1 _ ?_, hc 2 _ ?_, hc 3 _ ?_⟩, ⟨?_, ?_, ?_, ?_⟩, Nat.lt_of_lt_of_le hs hb.size⟩
  all_goals first | (rw [World.cell?_alloc_at _ _ _ _ rfl]; rfl) | (rw [hf _ _ hs]; refine World.frozen?_alloc_at _ _ _ _ ?_; simp)
theorem new_box4d {w w3 : World} {z0 z1 z2 z3 : Value} {t : TypeId} (hb : Below (w.alloc (.cells #[z0, z1, z2, z3] t)).drew.heap.size (w.alloc (.cells #[z0, z1, z2, z3] t)).drew w3) :
    (w3.cell? ⟨w.heap.size, 0, none⟩ = some z0 ∧ w3.cell? ⟨w.heap.size, 1, none⟩ = some z1 ∧ w3.cell? ⟨w.heap.size, 2, none⟩ = some z2 ∧ w3.cell? ⟨w.heap.size, 3, none⟩ = some z3) ∧
    (w3.frozen? ⟨w.heap.size, 0, none⟩ = false ∧ w3.frozen? ⟨w.heap.size, 1, none⟩ = false ∧ w3.frozen? ⟨w.heap.size, 2, none⟩ = false ∧ w3.frozen? ⟨w.heap.size, 3, none⟩ = false) ∧ w.heap.size < w3.heap.size := by
  have hs : w.heap.size < (w.alloc (.cells #[z0, z1, z2, z3] t)).drew.heap.size := by simp
  have hc : ∀ o u, (w.alloc (.cells #[z0, z1, z2, z3] t)).cell? ⟨w.heap.size, o, none⟩ = some u → w3.cell? ⟨w.heap.size, o, none⟩ = some u := fun o u h => ((bcell hb).1 _ o hs).trans h
  have hf : ∀ o, (w.alloc (.cells #[z0, z1, z2, z3] t)).frozen? ⟨w.heap.size, o, none⟩ = false → w3.frozen? ⟨w.heap.size, o, none⟩ = false := fun o h => ((bcell hb).2 _ o hs).trans h
  refine ⟨⟨hc 0 _ ?_, hc 1 _ ?_, hc 2 _ ?_, hc 3 _ ?_⟩, ⟨hf _ ?_, hf _ ?_, hf _ ?_, hf _ ?_⟩, Nat.lt_of_lt_of_le hs hb.size⟩
  all_goals first | (rw [World.cell?_alloc_at _ _ _ _ rfl]; rfl) | (refine World.frozen?_alloc_at _ _ _ _ ?_; simp)
/-- The box that a declared variable of four cells lies in, whichever the order of its making was. -/
theorem box_made {w3 : World} {z0 z1 z2 z3 : Value} {t : TypeId} : 
    ((w3.alloc (.cells #[z0, z1, z2, z3] t)).cell? ⟨w3.heap.size, 0, none⟩ = some z0 ∧ (w3.alloc (.cells #[z0, z1, z2, z3] t)).cell? ⟨w3.heap.size, 1, none⟩ = some z1 ∧ (w3.alloc (.cells #[z0, z1, z2, z3] t)).cell? ⟨w3.heap.size, 2, none⟩ = some z2 ∧ (w3.alloc (.cells #[z0, z1, z2, z3] t)).cell? ⟨w3.heap.size, 3, none⟩ = some z3) ∧ w3.heap.size < (w3.alloc (.cells #[z0, z1, z2, z3] t)).heap.size := by
  refine ⟨⟨?_, ?_, ?_, ?_⟩, by simp⟩
  all_goals (rw [World.cell?_alloc_at _ _ _ _ rfl]; rfl)
theorem box_set {w3 : World} {nb : Nat} {u0 u1 u2 u3 : Value} (v0 v1 v2 v3 : Value) (c0 : w3.cell? ⟨nb, 0, none⟩ = some u0) (c1 : w3.cell? ⟨nb, 1, none⟩ = some u1) (c2 : w3.cell? ⟨nb, 2, none⟩ = some u2) (c3 : w3.cell? ⟨nb, 3, none⟩ = some u3) (hl : nb < w3.heap.size) :
    (((((w3.setCell ⟨nb, 0, none⟩ v0).setCell ⟨nb, 1, none⟩ v1).setCell ⟨nb, 2, none⟩ v2).setCell ⟨nb, 3, none⟩ v3).cell? ⟨nb, 0, none⟩ = some v0 ∧
     ((((w3.setCell ⟨nb, 0, none⟩ v0).setCell ⟨nb, 1, none⟩ v1).setCell ⟨nb, 2, none⟩ v2).setCell ⟨nb, 3, none⟩ v3).cell? ⟨nb, 1, none⟩ = some v1 ∧
     ((((w3.setCell ⟨nb, 0, none⟩ v0).setCell ⟨nb, 1, none⟩ v1).setCell ⟨nb, 2, none⟩ v2).setCell ⟨nb, 3, none⟩ v3).cell? ⟨nb, 2, none⟩ = some v2 ∧
     ((((w3.setCell ⟨nb, 0, none⟩ v0).setCell ⟨nb, 1, none⟩ v1).setCell ⟨nb, 2, none⟩ v2).setCell ⟨nb, 3, none⟩ v3).cell? ⟨nb, 3, none⟩ = some v3) ∧
     nb < ((((w3.setCell ⟨nb, 0, none⟩ v0).setCell ⟨nb, 1, none⟩ v1).setCell ⟨nb, 2, none⟩ v2).setCell ⟨nb, 3, none⟩ v3).heap.size := by
  have ne : ∀ i j : Nat, i ≠ j → (⟨nb, i, none⟩ : Addr) ≠ ⟨nb, j, none⟩ := fun i j h e => h (by injection e)
  have g1 : (w3.setCell ⟨nb, 0, none⟩ v0).cell? ⟨nb, 1, none⟩ = some u1 := (World.cell?_setCell_other _ _ _ _ (ne 0 1 (by omega))).trans c1
  have g2 : ((w3.setCell ⟨nb, 0, none⟩ v0).setCell ⟨nb, 1, none⟩ v1).cell? ⟨nb, 2, none⟩ = some u2 := (World.cell?_setCell_other _ _ _ _ (ne 1 2 (by omega))).trans ((World.cell?_setCell_other _ _ _ _ (ne 0 2 (by omega))).trans c2)
  have g3 : (((w3.setCell ⟨nb, 0, none⟩ v0).setCell ⟨nb, 1, none⟩ v1).setCell ⟨nb, 2, none⟩ v2).cell? ⟨nb, 3, none⟩ = some u3 := (World.cell?_setCell_other _ _ _ _ (ne 2 3 (by omega))).trans ((World.cell?_setCell_other _ _ _ _ (ne 1 3 (by omega))).trans ((World.cell?_setCell_other _ _ _ _ (ne 0 3 (by omega))).trans c3))
  have h0 := World.cell?_setCell_same _ _ v0 c0
  have h1 := World.cell?_setCell_same _ _ v1 g1
  have h2 := World.cell?_setCell_same _ _ v2 g2
  have h3 := World.cell?_setCell_same _ _ v3 g3
  refine ⟨⟨?_, ?_, ?_, h3⟩, World.block_lt_of_cell? _ _ h3⟩
  · exact (World.cell?_setCell_other _ _ _ _ (ne 3 0 (by omega))).trans ((World.cell?_setCell_other _ _ _ _ (ne 2 0 (by omega))).trans ((World.cell?_setCell_other _ _ _ _ (ne 1 0 (by omega))).trans h0))
  · exact (World.cell?_setCell_other _ _ _ _ (ne 3 1 (by omega))).trans ((World.cell?_setCell_other _ _ _ _ (ne 2 1 (by omega))).trans h1)
  · exact (World.cell?_setCell_other _ _ _ _ (ne 3 2 (by omega))).trans h2
theorem box_set2 {w3 : World} {nb : Nat} {u0 u1 : Value} (v0 v1 : Value) (c0 : w3.cell? ⟨nb, 0, none⟩ = some u0) (c1 : w3.cell? ⟨nb, 1, none⟩ = some u1) :
    ((w3.setCell ⟨nb, 0, none⟩ v0).setCell ⟨nb, 1, none⟩ v1).cell? ⟨nb, 0, none⟩ = some v0 ∧ ((w3.setCell ⟨nb, 0, none⟩ v0).setCell ⟨nb, 1, none⟩ v1).cell? ⟨nb, 1, none⟩ = some v1 := by
  have ne : ∀ i j : Nat, i ≠ j → (⟨nb, i, none⟩ : Addr) ≠ ⟨nb, j, none⟩ := fun i j h e => h (by injection e)
  have g0 : w3.cell? ⟨nb, 0, none⟩ = some u0 := by exact c0
  have h0 : (w3.setCell ⟨nb, 0, none⟩ v0).cell? ⟨nb, 0, none⟩ = some v0 := World.cell?_setCell_same _ _ _ g0
  have g1 : (w3.setCell ⟨nb, 0, none⟩ v0).cell? ⟨nb, 1, none⟩ = some u1 := by refine (World.cell?_setCell_other _ _ _ _ (ne 0 1 (by omega))).trans ?_; exact c1
  have h1 : ((w3.setCell ⟨nb, 0, none⟩ v0).setCell ⟨nb, 1, none⟩ v1).cell? ⟨nb, 1, none⟩ = some v1 := World.cell?_setCell_same _ _ _ g1
  have k0 : ((w3.setCell ⟨nb, 0, none⟩ v0).setCell ⟨nb, 1, none⟩ v1).cell? ⟨nb, 0, none⟩ = some v0 := by refine (World.cell?_setCell_other _ _ _ _ (ne 1 0 (by omega))).trans ?_; exact h0
  have k1 : ((w3.setCell ⟨nb, 0, none⟩ v0).setCell ⟨nb, 1, none⟩ v1).cell? ⟨nb, 1, none⟩ = some v1 := by exact h1
  exact ⟨k0, k1⟩
theorem box_set3 {w3 : World} {nb : Nat} {u0 u1 u2 : Value} (v0 v1 v2 : Value) (c0 : w3.cell? ⟨nb, 0, none⟩ = some u0) (c1 : w3.cell? ⟨nb, 1, none⟩ = some u1) (c2 : w3.cell? ⟨nb, 2, none⟩ = some u2) :
    (((w3.setCell ⟨nb, 0, none⟩ v0).setCell ⟨nb, 1, none⟩ v1).setCell ⟨nb, 2, none⟩ v2).cell? ⟨nb, 0, none⟩ = some v0 ∧ (((w3.setCell ⟨nb, 0, none⟩ v0).setCell ⟨nb, 1, none⟩ v1).setCell ⟨nb, 2, none⟩ v2).cell? ⟨nb, 1, none⟩ = some v1 ∧ (((w3.setCell ⟨nb, 0, none⟩ v0).setCell ⟨nb, 1, none⟩ v1).setCell ⟨nb, 2, none⟩ v2).cell? ⟨nb, 2, none⟩ = some v2 := by
  have ne : ∀ i j : Nat, i ≠ j → (⟨nb, i, none⟩ : Addr) ≠ ⟨nb, j, none⟩ := fun i j h e => h (by injection e)
  have g0 : w3.cell? ⟨nb, 0, none⟩ = some u0 := by exact c0
  have h0 : (w3.setCell ⟨nb, 0, none⟩ v0).cell? ⟨nb, 0, none⟩ = some v0 := World.cell?_setCell_same _ _ _ g0
  have g1 : (w3.setCell ⟨nb, 0, none⟩ v0).cell? ⟨nb, 1, none⟩ = some u1 := by refine (World.cell?_setCell_other _ _ _ _ (ne 0 1 (by omega))).trans ?_; exact c1
  have h1 : ((w3.setCell ⟨nb, 0, none⟩ v0).setCell ⟨nb, 1, none⟩ v1).cell? ⟨nb, 1, none⟩ = some v1 := World.cell?_setCell_same _ _ _ g1
  have g2 : ((w3.setCell ⟨nb, 0, none⟩ v0).setCell ⟨nb, 1, none⟩ v1).cell? ⟨nb, 2, none⟩ = some u2 := by refine (World.cell?_setCell_other _ _ _ _ (ne 1 2 (by omega))).trans ?_; refine (World.cell?_setCell_other _ _ _ _ (ne 0 2 (by omega))).trans ?_; exact c2
  have h2 : (((w3.setCell ⟨nb, 0, none⟩ v0).setCell ⟨nb, 1, none⟩ v1).setCell ⟨nb, 2, none⟩ v2).cell? ⟨nb, 2, none⟩ = some v2 := World.cell?_setCell_same _ _ _ g2
  have k0 : (((w3.setCell ⟨nb, 0, none⟩ v0).setCell ⟨nb, 1, none⟩ v1).setCell ⟨nb, 2, none⟩ v2).cell? ⟨nb, 0, none⟩ = some v0 := by refine (World.cell?_setCell_other _ _ _ _ (ne 2 0 (by omega))).trans ?_; refine (World.cell?_setCell_other _ _ _ _ (ne 1 0 (by omega))).trans ?_; exact h0
  have k1 : (((w3.setCell ⟨nb, 0, none⟩ v0).setCell ⟨nb, 1, none⟩ v1).setCell ⟨nb, 2, none⟩ v2).cell? ⟨nb, 1, none⟩ = some v1 := by refine (World.cell?_setCell_other _ _ _ _ (ne 2 1 (by omega))).trans ?_; exact h1
  have k2 : (((w3.setCell ⟨nb, 0, none⟩ v0).setCell ⟨nb, 1, none⟩ v1).setCell ⟨nb, 2, none⟩ v2).cell? ⟨nb, 2, none⟩ = some v2 := by exact h2
  exact ⟨k0, k1, k2⟩
theorem box_set4c {w3 : World} {nb : Nat} {u0 u1 u2 u3 : Value} (v0 v1 v2 v3 : Value) (c0 : w3.cell? ⟨nb, 0, none⟩ = some u0) (c1 : w3.cell? ⟨nb, 1, none⟩ = some u1) (c2 : w3.cell? ⟨nb, 2, none⟩ = some u2) (c3 : w3.cell? ⟨nb, 3, none⟩ = some u3) :
    ((((w3.setCell ⟨nb, 0, none⟩ v0).setCell ⟨nb, 1, none⟩ v1).setCell ⟨nb, 2, none⟩ v2).setCell ⟨nb, 3, none⟩ v3).cell? ⟨nb, 0, none⟩ = some v0 ∧ ((((w3.setCell ⟨nb, 0, none⟩ v0).setCell ⟨nb, 1, none⟩ v1).setCell ⟨nb, 2, none⟩ v2).setCell ⟨nb, 3, none⟩ v3).cell? ⟨nb, 1, none⟩ = some v1 ∧ ((((w3.setCell ⟨nb, 0, none⟩ v0).setCell ⟨nb, 1, none⟩ v1).setCell ⟨nb, 2, none⟩ v2).setCell ⟨nb, 3, none⟩ v3).cell? ⟨nb, 2, none⟩ = some v2 ∧ ((((w3.setCell ⟨nb, 0, none⟩ v0).setCell ⟨nb, 1, none⟩ v1).setCell ⟨nb, 2, none⟩ v2).setCell ⟨nb, 3, none⟩ v3).cell? ⟨nb, 3, none⟩ = some v3 := by
  have ne : ∀ i j : Nat, i ≠ j → (⟨nb, i, none⟩ : Addr) ≠ ⟨nb, j, none⟩ := fun i j h e => h (by injection e)
  have g0 : w3.cell? ⟨nb, 0, none⟩ = some u0 := by exact c0
  have h0 : (w3.setCell ⟨nb, 0, none⟩ v0).cell? ⟨nb, 0, none⟩ = some v0 := World.cell?_setCell_same _ _ _ g0
  have g1 : (w3.setCell ⟨nb, 0, none⟩ v0).cell? ⟨nb, 1, none⟩ = some u1 := by refine (World.cell?_setCell_other _ _ _ _ (ne 0 1 (by omega))).trans ?_; exact c1
  have h1 : ((w3.setCell ⟨nb, 0, none⟩ v0).setCell ⟨nb, 1, none⟩ v1).cell? ⟨nb, 1, none⟩ = some v1 := World.cell?_setCell_same _ _ _ g1
  have g2 : ((w3.setCell ⟨nb, 0, none⟩ v0).setCell ⟨nb, 1, none⟩ v1).cell? ⟨nb, 2, none⟩ = some u2 := by refine (World.cell?_setCell_other _ _ _ _ (ne 1 2 (by omega))).trans ?_; refine (World.cell?_setCell_other _ _ _ _ (ne 0 2 (by omega))).trans ?_; exact c2
  have h2 : (((w3.setCell ⟨nb, 0, none⟩ v0).setCell ⟨nb, 1, none⟩ v1).setCell ⟨nb, 2, none⟩ v2).cell? ⟨nb, 2, none⟩ = some v2 := World.cell?_setCell_same _ _ _ g2
  have g3 : (((w3.setCell ⟨nb, 0, none⟩ v0).setCell ⟨nb, 1, none⟩ v1).setCell ⟨nb, 2, none⟩ v2).cell? ⟨nb, 3, none⟩ = some u3 := by refine (World.cell?_setCell_other _ _ _ _ (ne 2 3 (by omega))).trans ?_; refine (World.cell?_setCell_other _ _ _ _ (ne 1 3 (by omega))).trans ?_; refine (World.cell?_setCell_other _ _ _ _ (ne 0 3 (by omega))).trans ?_; exact c3
  have h3 : ((((w3.setCell ⟨nb, 0, none⟩ v0).setCell ⟨nb, 1, none⟩ v1).setCell ⟨nb, 2, none⟩ v2).setCell ⟨nb, 3, none⟩ v3).cell? ⟨nb, 3, none⟩ = some v3 := World.cell?_setCell_same _ _ _ g3
  have k0 : ((((w3.setCell ⟨nb, 0, none⟩ v0).setCell ⟨nb, 1, none⟩ v1).setCell ⟨nb, 2, none⟩ v2).setCell ⟨nb, 3, none⟩ v3).cell? ⟨nb, 0, none⟩ = some v0 := by refine (World.cell?_setCell_other _ _ _ _ (ne 3 0 (by omega))).trans ?_; refine (World.cell?_setCell_other _ _ _ _ (ne 2 0 (by omega))).trans ?_; refine (World.cell?_setCell_other _ _ _ _ (ne 1 0 (by omega))).trans ?_; exact h0
  have k1 : ((((w3.setCell ⟨nb, 0, none⟩ v0).setCell ⟨nb, 1, none⟩ v1).setCell ⟨nb, 2, none⟩ v2).setCell ⟨nb, 3, none⟩ v3).cell? ⟨nb, 1, none⟩ = some v1 := by refine (World.cell?_setCell_other _ _ _ _ (ne 3 1 (by omega))).trans ?_; refine (World.cell?_setCell_other _ _ _ _ (ne 2 1 (by omega))).trans ?_; exact h1
  have k2 : ((((w3.setCell ⟨nb, 0, none⟩ v0).setCell ⟨nb, 1, none⟩ v1).setCell ⟨nb, 2, none⟩ v2).setCell ⟨nb, 3, none⟩ v3).cell? ⟨nb, 2, none⟩ = some v2 := by refine (World.cell?_setCell_other _ _ _ _ (ne 3 2 (by omega))).trans ?_; exact h2
  have k3 : ((((w3.setCell ⟨nb, 0, none⟩ v0).setCell ⟨nb, 1, none⟩ v1).setCell ⟨nb, 2, none⟩ v2).setCell ⟨nb, 3, none⟩ v3).cell? ⟨nb, 3, none⟩ = some v3 := by exact h3
  exact ⟨k0, k1, k2, k3⟩
theorem box_set5 {w3 : World} {nb : Nat} {u0 u1 u2 u3 u4 : Value} (v0 v1 v2 v3 v4 : Value) (c0 : w3.cell? ⟨nb, 0, none⟩ = some u0) (c1 : w3.cell? ⟨nb, 1, none⟩ = some u1) (c2 : w3.cell? ⟨nb, 2, none⟩ = some u2) (c3 : w3.cell? ⟨nb, 3, none⟩ = some u3) (c4 : w3.cell? ⟨nb, 4, none⟩ = some u4) :
    (((((w3.setCell ⟨nb, 0, none⟩ v0).setCell ⟨nb, 1, none⟩ v1).setCell ⟨nb, 2, none⟩ v2).setCell ⟨nb, 3, none⟩ v3).setCell ⟨nb, 4, none⟩ v4).cell? ⟨nb, 0, none⟩ = some v0 ∧ (((((w3.setCell ⟨nb, 0, none⟩ v0).setCell ⟨nb, 1, none⟩ v1).setCell ⟨nb, 2, none⟩ v2).setCell ⟨nb, 3, none⟩ v3).setCell ⟨nb, 4, none⟩ v4).cell? ⟨nb, 1, none⟩ = some v1 ∧ (((((w3.setCell ⟨nb, 0, none⟩ v0).setCell ⟨nb, 1, none⟩ v1).setCell ⟨nb, 2, none⟩ v2).setCell ⟨nb, 3, none⟩ v3).setCell ⟨nb, 4, none⟩ v4).cell? ⟨nb, 2, none⟩ = some v2 ∧ (((((w3.setCell ⟨nb, 0, none⟩ v0).setCell ⟨nb, 1, none⟩ v1).setCell ⟨nb, 2, none⟩ v2).setCell ⟨nb, 3, none⟩ v3).setCell ⟨nb, 4, none⟩ v4).cell? ⟨nb, 3, none⟩ = some v3 ∧ (((((w3.setCell ⟨nb, 0, none⟩ v0).setCell ⟨nb, 1, none⟩ v1).setCell ⟨nb, 2, none⟩ v2).setCell ⟨nb, 3, none⟩ v3).setCell ⟨nb, 4, none⟩ v4).cell? ⟨nb, 4, none⟩ = some v4 := by
  have ne : ∀ i j : Nat, i ≠ j → (⟨nb, i, none⟩ : Addr) ≠ ⟨nb, j, none⟩ := fun i j h e => h (by injection e)
  have g0 : w3.cell? ⟨nb, 0, none⟩ = some u0 := by exact c0
  have h0 : (w3.setCell ⟨nb, 0, none⟩ v0).cell? ⟨nb, 0, none⟩ = some v0 := World.cell?_setCell_same _ _ _ g0
  have g1 : (w3.setCell ⟨nb, 0, none⟩ v0).cell? ⟨nb, 1, none⟩ = some u1 := by refine (World.cell?_setCell_other _ _ _ _ (ne 0 1 (by omega))).trans ?_; exact c1
  have h1 : ((w3.setCell ⟨nb, 0, none⟩ v0).setCell ⟨nb, 1, none⟩ v1).cell? ⟨nb, 1, none⟩ = some v1 := World.cell?_setCell_same _ _ _ g1
  have g2 : ((w3.setCell ⟨nb, 0, none⟩ v0).setCell ⟨nb, 1, none⟩ v1).cell? ⟨nb, 2, none⟩ = some u2 := by refine (World.cell?_setCell_other _ _ _ _ (ne 1 2 (by omega))).trans ?_; refine (World.cell?_setCell_other _ _ _ _ (ne 0 2 (by omega))).trans ?_; exact c2
  have h2 : (((w3.setCell ⟨nb, 0, none⟩ v0).setCell ⟨nb, 1, none⟩ v1).setCell ⟨nb, 2, none⟩ v2).cell? ⟨nb, 2, none⟩ = some v2 := World.cell?_setCell_same _ _ _ g2
  have g3 : (((w3.setCell ⟨nb, 0, none⟩ v0).setCell ⟨nb, 1, none⟩ v1).setCell ⟨nb, 2, none⟩ v2).cell? ⟨nb, 3, none⟩ = some u3 := by refine (World.cell?_setCell_other _ _ _ _ (ne 2 3 (by omega))).trans ?_; refine (World.cell?_setCell_other _ _ _ _ (ne 1 3 (by omega))).trans ?_; refine (World.cell?_setCell_other _ _ _ _ (ne 0 3 (by omega))).trans ?_; exact c3
  have h3 : ((((w3.setCell ⟨nb, 0, none⟩ v0).setCell ⟨nb, 1, none⟩ v1).setCell ⟨nb, 2, none⟩ v2).setCell ⟨nb, 3, none⟩ v3).cell? ⟨nb, 3, none⟩ = some v3 := World.cell?_setCell_same _ _ _ g3
  have g4 : ((((w3.setCell ⟨nb, 0, none⟩ v0).setCell ⟨nb, 1, none⟩ v1).setCell ⟨nb, 2, none⟩ v2).setCell ⟨nb, 3, none⟩ v3).cell? ⟨nb, 4, none⟩ = some u4 := by refine (World.cell?_setCell_other _ _ _ _ (ne 3 4 (by omega))).trans ?_; refine (World.cell?_setCell_other _ _ _ _ (ne 2 4 (by omega))).trans ?_; refine (World.cell?_setCell_other _ _ _ _ (ne 1 4 (by omega))).trans ?_; refine (World.cell?_setCell_other _ _ _ _ (ne 0 4 (by omega))).trans ?_; exact c4
  have h4 : (((((w3.setCell ⟨nb, 0, none⟩ v0).setCell ⟨nb, 1, none⟩ v1).setCell ⟨nb, 2, none⟩ v2).setCell ⟨nb, 3, none⟩ v3).setCell ⟨nb, 4, none⟩ v4).cell? ⟨nb, 4, none⟩ = some v4 := World.cell?_setCell_same _ _ _ g4
  have k0 : (((((w3.setCell ⟨nb, 0, none⟩ v0).setCell ⟨nb, 1, none⟩ v1).setCell ⟨nb, 2, none⟩ v2).setCell ⟨nb, 3, none⟩ v3).setCell ⟨nb, 4, none⟩ v4).cell? ⟨nb, 0, none⟩ = some v0 := by refine (World.cell?_setCell_other _ _ _ _ (ne 4 0 (by omega))).trans ?_; refine (World.cell?_setCell_other _ _ _ _ (ne 3 0 (by omega))).trans ?_; refine (World.cell?_setCell_other _ _ _ _ (ne 2 0 (by omega))).trans ?_; refine (World.cell?_setCell_other _ _ _ _ (ne 1 0 (by omega))).trans ?_; exact h0
  have k1 : (((((w3.setCell ⟨nb, 0, none⟩ v0).setCell ⟨nb, 1, none⟩ v1).setCell ⟨nb, 2, none⟩ v2).setCell ⟨nb, 3, none⟩ v3).setCell ⟨nb, 4, none⟩ v4).cell? ⟨nb, 1, none⟩ = some v1 := by refine (World.cell?_setCell_other _ _ _ _ (ne 4 1 (by omega))).trans ?_; refine (World.cell?_setCell_other _ _ _ _ (ne 3 1 (by omega))).trans ?_; refine (World.cell?_setCell_other _ _ _ _ (ne 2 1 (by omega))).trans ?_; exact h1
  have k2 : (((((w3.setCell ⟨nb, 0, none⟩ v0).setCell ⟨nb, 1, none⟩ v1).setCell ⟨nb, 2, none⟩ v2).setCell ⟨nb, 3, none⟩ v3).setCell ⟨nb, 4, none⟩ v4).cell? ⟨nb, 2, none⟩ = some v2 := by refine (World.cell?_setCell_other _ _ _ _ (ne 4 2 (by omega))).trans ?_; refine (World.cell?_setCell_other _ _ _ _ (ne 3 2 (by omega))).trans ?_; exact h2
  have k3 : (((((w3.setCell ⟨nb, 0, none⟩ v0).setCell ⟨nb, 1, none⟩ v1).setCell ⟨nb, 2, none⟩ v2).setCell ⟨nb, 3, none⟩ v3).setCell ⟨nb, 4, none⟩ v4).cell? ⟨nb, 3, none⟩ = some v3 := by refine (World.cell?_setCell_other _ _ _ _ (ne 4 3 (by omega))).trans ?_; exact h3
  have k4 : (((((w3.setCell ⟨nb, 0, none⟩ v0).setCell ⟨nb, 1, none⟩ v1).setCell ⟨nb, 2, none⟩ v2).setCell ⟨nb, 3, none⟩ v3).setCell ⟨nb, 4, none⟩ v4).cell? ⟨nb, 4, none⟩ = some v4 := by exact h4
  exact ⟨k0, k1, k2, k3, k4⟩
theorem old_box4 {w2 w3 : World} {b : Nat} {z0 z1 z2 z3 : Value} (hb : Below w2.heap.size w2 w3)
    (c : w2.cell? ⟨b, 0, none⟩ = some z0 ∧ w2.cell? ⟨b, 1, none⟩ = some z1 ∧ w2.cell? ⟨b, 2, none⟩ = some z2 ∧ w2.cell? ⟨b, 3, none⟩ = some z3)
    (f : w2.frozen? ⟨b, 0, none⟩ = false ∧ w2.frozen? ⟨b, 1, none⟩ = false ∧ w2.frozen? ⟨b, 2, none⟩ = false ∧ w2.frozen? ⟨b, 3, none⟩ = false) (hl : b < w2.heap.size) :
    (w3.cell? ⟨b, 0, none⟩ = some z0 ∧ w3.cell? ⟨b, 1, none⟩ = some z1 ∧ w3.cell? ⟨b, 2, none⟩ = some z2 ∧ w3.cell? ⟨b, 3, none⟩ = some z3) ∧
    (w3.frozen? ⟨b, 0, none⟩ = false ∧ w3.frozen? ⟨b, 1, none⟩ = false ∧ w3.frozen? ⟨b, 2, none⟩ = false ∧ w3.frozen? ⟨b, 3, none⟩ = false) ∧ b < w3.heap.size :=
  ⟨⟨below_cell hb rfl c.1, below_cell hb rfl c.2.1, below_cell hb rfl c.2.2.1, below_cell hb rfl c.2.2.2⟩,
   ⟨((bcell hb).2 _ _ hl).trans f.1, ((bcell hb).2 _ _ hl).trans f.2.1, ((bcell hb).2 _ _ hl).trans f.2.2.1, ((bcell hb).2 _ _ hl).trans f.2.2.2⟩, Nat.lt_of_lt_of_le hl hb.size⟩

theorem grown_trans0 {a b c : World} {row : Option Nat} (h1 : a.grownBy b row) (h2 : b.grownBy c row) : a.grownBy c row :=
  ⟨h2.os.trans h1.os, h2.tape.trans h1.tape, h2.output.trans h1.output, Nat.le_trans h1.size h2.size, fun i hi hn => (h2.block i (Nat.lt_of_lt_of_le hi h1.size) hn).trans (h1.block i hi hn)⟩
theorem ret_num {k : IntKind} {a b : Int} (h : a = b) : Value.int k a = .int k b := by rw [h]

theorem below_step {w W W' : World} (h : Below w.heap.size w W) (k : Below W.heap.size W W') : Below w.heap.size w W' := h.trans (k.mono h.size)
theorem Mid.rd {w w' : World} {lo hi n sz : Nat} {v : Value} {xs : List Value} (h : Mid lo hi w w') (hr : Rd w v n sz xs) (hb : ∀ a m c, v = .slice (some a) m c → a.block < lo ∨ hi ≤ a.block) : Rd w' v n sz xs := by
  refine ⟨hr.1, ?_⟩
  rcases hr.2 with h0 | ⟨b, off, cap, rfl, h2, h3, h4, h5⟩
  · exact .inl h0
  · exact .inr ⟨b, off, cap, rfl, Nat.lt_of_lt_of_le h2 h.size, h3, h4, fun j u hj => h.cell (hb _ _ _ rfl) (h5 j u hj)⟩

theorem take_next (zs : List Int) (k : Nat) (h : k < zs.length) : zs.take (k + 1) = zs.take k ++ [zs.getD k 0] := by
  rw [List.take_succ_eq_append_getElem h]
  simp [List.getD, h]

theorem RdI.cases {w : World} {v : Value} {zs : List Int} (h : RdI w v zs) : ((∃ a cap, v = .slice a 0 cap) ∧ zs = []) ∨
    ∃ b off cap, v = .slice (some ⟨b, off, none⟩) zs.length cap ∧ b < w.heap.size ∧ zs.length ≤ cap ∧ cap ≤ 9223372036854775807 ∧ ∀ j, j < zs.length → w.cell? ⟨b, off + j, none⟩ = some (.int .i64 (zs.getD j 0)) := by
  rcases h.2 with ⟨h0, h1⟩ | ⟨b, off, cap, h1, h2, h3, h4, h5⟩
  · exact .inl ⟨h0, List.eq_nil_of_length_eq_zero h1⟩
  · refine .inr ⟨b, off, cap, h1, h2, h3, h4, fun j hj => h5 j _ ?_⟩
    simp [List.getD, hj]
theorem RdI.form {w : World} {v : Value} {zs : List Int} (h : RdI w v zs) : ∃ a cap, v = .slice a zs.length cap ∧ zs.length ≤ 9223372036854775807 := by
  rcases h.cases with ⟨⟨a0, c0, rfl⟩, rfl⟩ | ⟨b, off, cap, rfl, _, h1, h2, _⟩
  · exact ⟨a0, c0, rfl, by simp⟩
  · exact ⟨_, _, rfl, by omega⟩
theorem RdI.cases0 {w : World} {v : Value} {zs : List Int} (h : RdI w v zs) : (zs = [] ∧ ∃ a cap, v = .slice a 0 cap) ∨
    (0 < zs.length ∧ ∃ b off cap, v = .slice (some ⟨b, off, none⟩) zs.length cap ∧ b < w.heap.size ∧ zs.length ≤ cap ∧ cap ≤ 9223372036854775807 ∧ ∀ j, j < zs.length → w.cell? ⟨b, off + j, none⟩ = some (.int .i64 (zs.getD j 0))) := by
  rcases h.cases with ⟨⟨a0, c0, rfl⟩, rfl⟩ | ⟨b, off, cap, rfl, h1, h2, h3, h4⟩
  · exact .inl ⟨rfl, a0, c0, rfl⟩
  · rcases Nat.eq_zero_or_pos zs.length with h0 | h0
    · exact .inl ⟨List.eq_nil_of_length_eq_zero h0, _, _, by rw [h0]⟩
    · exact .inr ⟨h0, b, off, cap, rfl, h1, h2, h3, h4⟩
end Go.Proofs.YtliophgfgmjhiaaGreatDoor
namespace Go.Proofs.YtliophgfgmjhiaaGreatDoor
set_option linter.unusedSimpArgs false
set_option linter.unusedVariables false
set_option linter.unnecessarySimpa false
set_option maxRecDepth 200000
open Go.ChangeShapes Go.WideShapes Go.ChangeAt Go.RowKit Go.Joins
open Go.ChangeMaps (open_string shut_string)

def IsInt (v : Value) : Prop := ∃ n : Int, v = .int .i64 n ∧ -9223372036854775808 ≤ n ∧ n ≤ 9223372036854775807
def IsStr (v : Value) : Prop := ∃ s : ByteArray, v = .string s ∧ s.size ≤ 9223372036854775807
def IsBool (v : Value) : Prop := ∃ b : Bool, v = .bool b

section
variable {H : Type} {enc : TypeId × Value → H} {W : World} {base : Nat} {spare : Nat → Bool} {held : Bool} {r : Reach} {b0 : Nat}

theorem i64_range {n : Int} (h : (Lit.int .i64 n).wf = true) : -9223372036854775808 ≤ n ∧ n ≤ 9223372036854775807 := by
  have h := h
  simp [Lit.wf, IntKind.min, IntKind.max, IntKind.signed, IntKind.bits] at h
  omega

theorem isInt_of {t : TypeId} (ht : Tryz.prog.underlying t = some (.int .i64)) {v : Value} {d : DataW H} {p : List MemPlace} (hv : Value.okWide Tryz.prog W r b0 t v) (h : DataW.Trod enc Tryz.prog W base spare held t v d p) : IsInt v := by
  obtain ⟨n, rfl, rfl, rfl, hw⟩ := open_int ht hv h
  exact ⟨n, rfl, i64_range hw⟩
theorem isStr_of {t : TypeId} (ht : Tryz.prog.underlying t = some .string) {v : Value} {d : DataW H} {p : List MemPlace} (hv : Value.okWide Tryz.prog W r b0 t v) (h : DataW.Trod enc Tryz.prog W base spare held t v d p) : IsStr v := by
  obtain ⟨s, rfl, rfl, rfl, hs⟩ := open_string ht hv h
  exact ⟨s, rfl, by simpa [maxLen] using hs⟩
theorem isBool_of {t : TypeId} (ht : Tryz.prog.underlying t = some .bool) {v : Value} {d : DataW H} {p : List MemPlace} (hv : Value.okWide Tryz.prog W r b0 t v) (h : DataW.Trod enc Tryz.prog W base spare held t v d p) : IsBool v := by
  obtain ⟨b, rfl, rfl, rfl⟩ := open_bool ht hv h
  exact ⟨b, rfl⟩
theorem cellInt_of {n : Nat} {t : TypeId} (ht : Tryz.prog.underlying t = some (.int .i64)) {v : Value} {y : DataW H × List MemPlace} (h : DataW.trod enc Tryz.prog W base spare held n t [v] = some y) : IsInt v := by
  obtain ⟨k, e, _, hw⟩ := DataW.trod_int ht h
  simp at e
  exact ⟨k, e, i64_range hw⟩
theorem cellStr_of {n : Nat} {t : TypeId} (ht : Tryz.prog.underlying t = some .string) {v : Value} {y : DataW H × List MemPlace} (h : DataW.trod enc Tryz.prog W base spare held n t [v] = some y) : IsStr v := by
  obtain ⟨k, e, _, hw⟩ := DataW.trod_string ht h
  simp at e
  exact ⟨k, e, by simpa [maxLen] using hw⟩

end
end Go.Proofs.YtliophgfgmjhiaaGreatDoor
namespace Go.Proofs.YtliophgfgmjhiaaGreatDoor
set_option linter.unusedSimpArgs false
set_option linter.unusedVariables false
set_option linter.unnecessarySimpa false
set_option maxRecDepth 200000
open Go.ChangeShapes Go.WideShapes Go.ChangeAt Go.RowKit

def inB (n lo hi : Int) : Bool := decide (lo ≤ n) && decide (n ≤ hi)

theorem within_any (n lo hi : Int) (w : World) :
    Calls Tryz.prog 53 #[.int .i64 n, .int .i64 lo, .int .i64 hi] w fun e w' => e = .returned (.bool (inB n lo hi)) ∧ w = w' := by
  by_cases h1 : lo ≤ n
  · go_enter Tryz.func53, Tryz.ntmps53
    go_wp2
    go_ret
    exact ⟨by simp [inB, h1], rfl⟩
  · go_enter Tryz.func53, Tryz.ntmps53
    go_wp2
    go_ret
    exact ⟨by simp [inB]; omega, rfl⟩

theorem l1In_any (n lo hi : Int) (w : World) :
    Calls Tryz.prog 39 #[.int .i64 n, .int .i64 lo, .int .i64 hi] w fun e w' => e = .returned (.bool (inB n lo hi)) ∧ w = w' := by
  by_cases h1 : lo ≤ n
  · go_enter Tryz.func39, Tryz.ntmps39
    go_wp2
    go_ret
    exact ⟨by simp [inB, h1], rfl⟩
  · go_enter Tryz.func39, Tryz.ntmps39
    go_wp2
    go_ret
    exact ⟨by simp [inB]; omega, rfl⟩

theorem count_wrap (n : Int) (h0 : 0 ≤ n) (h1 : n ≤ 20) : wrap64 (72 * 2 ^ (n.toNat - 1)) = 72 * 2 ^ (n.toNat - 1) := by
  obtain ⟨k, rfl⟩ := Int.eq_ofNat_of_zero_le h0
  rw [Int.toNat_natCast]
  have h : ∀ k : Nat, k < 21 → wrap64 (72 * 2 ^ (k - 1)) = 72 * 2 ^ (k - 1) := by decide +kernel
  exact h k (by omega)

def countF (n : Int) : Int := if n = 0 then 24 else 72 * 2 ^ (n.toNat - 1)
end Go.Proofs.YtliophgfgmjhiaaGreatDoor
namespace Go.Proofs.YtliophgfgmjhiaaGreatDoor
set_option linter.unusedSimpArgs false
set_option linter.unusedVariables false
set_option linter.unnecessarySimpa false
set_option maxRecDepth 200000
open Go.ChangeShapes Go.WideShapes Go.ChangeAt Go.RowKit

theorem within_p (n lo hi : Int) (w : World) :
    Calls Tryz.prog 53 #[.int .i64 n, .int .i64 lo, .int .i64 hi] w fun e w' => e = .returned (.bool (decide (lo ≤ n ∧ n ≤ hi))) ∧ w = w' :=
  (within_any n lo hi w).mono fun _ _ ⟨h, h'⟩ => ⟨by rw [h]; simp [inB], h'⟩
theorem l1In_p (n lo hi : Int) (w : World) :
    Calls Tryz.prog 39 #[.int .i64 n, .int .i64 lo, .int .i64 hi] w fun e w' => e = .returned (.bool (decide (lo ≤ n ∧ n ≤ hi))) ∧ w = w' :=
  (l1In_any n lo hi w).mono fun _ _ ⟨h, h'⟩ => ⟨by rw [h]; simp [inB], h'⟩

def IsDim (n : Int) : Prop := n = 2 ∨ n = 4 ∨ n = 8
instance (n : Int) : Decidable (IsDim n) := by unfold IsDim; infer_instance
def TLok (n k i j m : Int) : Prop := IsDim n ∧ 0 ≤ i ∧ i ≤ n - 1 ∧ 0 ≤ j ∧ j ≤ n - 1 ∧ ((k = 1 ∧ j = 0 ∧ 1 ≤ m ∧ m ≤ 7) ∨ (k = 2 ∧ i < j ∧ m = 0) ∨ (k = 3 ∧ i < j ∧ 0 ≤ m ∧ m ≤ 7))
instance (n k i j m : Int) : Decidable (TLok n k i j m) := by unfold TLok; infer_instance


theorem tl_dim {n k i j m : Int} (h : ¬ IsDim n) : false = decide (TLok n k i j m) := by simp [TLok, h]
theorem dim_range {n : Int} (h : IsDim n) : 1 ≤ n ∧ n ≤ 8 := by unfold IsDim at h; omega

end Go.Proofs.YtliophgfgmjhiaaGreatDoor
namespace Go.Proofs.YtliophgfgmjhiaaGreatDoor
set_option linter.unusedSimpArgs false
set_option linter.unusedVariables false
set_option linter.unnecessarySimpa false
set_option maxRecDepth 200000
open Go.ChangeShapes Go.WideShapes Go.ChangeAt Go.RowKit

def allIn (zs : List Int) (lo hi : Int) : Bool := zs.all fun z => decide (lo ≤ z ∧ z ≤ hi)
theorem allIn_step {zs : List Int} {lo hi : Int} {k : Nat} (h : Hid (allIn (zs.take k) lo hi = true)) (hk : k < zs.length) (h1 : lo ≤ zs.getD k 0 ∧ zs.getD k 0 ≤ hi) : Hid (allIn (zs.take (k + 1)) lo hi = true) := by
  have h := h.out
  show allIn _ lo hi = true
  rw [take_next zs k hk]
  simp [allIn, List.all_append] at h ⊢
  exact ⟨h, by simpa using h1⟩
theorem allIn_fail {zs : List Int} {lo hi : Int} {k : Nat} (hk : k < zs.length) (h1 : ¬ (lo ≤ zs.getD k 0 ∧ zs.getD k 0 ≤ hi)) : false = allIn zs lo hi := by
  symm
  unfold allIn
  rw [List.all_eq_false]
  exact ⟨zs.getD k 0, by simp [List.getD, hk], by simpa using h1⟩
theorem allIn_end {zs : List Int} {lo hi : Int} {k : Nat} (h : Hid (allIn (zs.take k) lo hi = true)) (hk : zs.length ≤ k) : true = allIn zs lo hi := by
  have h := h.out
  rw [List.take_of_length_le hk] at h
  exact h.symm

theorem eq_step {xs ys : List Int} {k : Nat} (h : Hid (xs.take k = ys.take k)) (h1 : k < xs.length) (h2 : k < ys.length) (he : xs.getD k 0 = ys.getD k 0) : Hid (xs.take (k + 1) = ys.take (k + 1)) := by
  show _ = _
  rw [take_next xs k h1, take_next ys k h2, h.out, he]
theorem eq_fail {xs ys : List Int} {k : Nat} (he : ¬ xs.getD k 0 = ys.getD k 0) : false = decide (xs = ys) := by
  symm; rw [decide_eq_false_iff_not]; rintro rfl; exact he rfl
theorem eq_end {xs ys : List Int} {k : Nat} (h : Hid (xs.take k = ys.take k)) (h1 : xs.length ≤ k) (h2 : ys.length ≤ k) : true = decide (xs = ys) := by
  have h := h.out
  rw [List.take_of_length_le h1, List.take_of_length_le h2] at h
  simp [h]
/-- The cells that a helper has marked: whole numbers in a row, from k on. -/
def marks (k : Int) (n : Nat) : List Value := (List.range n).map fun i : Nat => Value.int .i64 (k + i)
theorem marks_len (k : Int) (n : Nat) : (marks k n).length = n := by simp [marks]
theorem marks_get (k : Int) (n j : Nat) (h : j < n) : (marks k n)[j]? = some (.int .i64 (k + j)) := by simp [marks, h]
theorem marks_step (k : Int) (j : Nat) (xs : List Value) (h : j < xs.length) : (marks k j ++ xs.drop j).set j (.int .i64 (k + j)) = marks k (j + 1) ++ xs.drop (j + 1) := by
  have e : xs.drop j = xs[j] :: xs.drop (j + 1) := by rw [List.drop_eq_getElem_cons h]
  rw [List.set_append_right _ _ (by simp [marks_len]), marks_len, Nat.sub_self, e, List.set_cons_zero]
  simp [marks, List.range_succ]
theorem marks_cell {w : World} {base : Nat} {e : TypeId} {g n cap j sz : Nat} {xs : List Value} (h : w.ownsRow base e sz (.slice (some ⟨g, 0, none⟩) n cap) n xs) (hj : j < n * sz) : ∃ u, w.cell? ⟨g, j, none⟩ = some u := by
  rw [h.cellAt j hj]
  have := h.1
  exact ⟨xs[j], by rw [List.getElem?_eq_getElem (by omega)]⟩

end Go.Proofs.YtliophgfgmjhiaaGreatDoor
namespace Go.Proofs.YtliophgfgmjhiaaGreatDoor
set_option linter.unusedSimpArgs false
set_option linter.unusedVariables false
set_option linter.unnecessarySimpa false
set_option maxRecDepth 200000
open Go.ChangeShapes Go.WideShapes Go.ChangeAt Go.RowKit

theorem info_int : (Tryz.prog.info? 3).map (fun i => (i.zero, i.size, i.bytes)) = some (some (.int .i64 0), 1, 8) := by kernel_rfl
/-- A slice of whole numbers that the call itself has made. -/
def OwnI (w : World) (base : Nat) (v : Value) (zs : List Int) : Prop := w.ownsRow base 3 1 v zs.length (zs.map (Value.int .i64))
theorem OwnI.rd {w : World} {base : Nat} {v : Value} {zs : List Int} (h : OwnI w base v zs) : RdI w v zs := Rd.of_own h
def idRows (n : Nat) : List Int := (List.range n).map fun i : Nat => (2 : Int) ^ i
theorem idRows_len (n : Nat) : (idRows n).length = n := by simp [idRows]
theorem idRows_succ (n : Nat) : idRows (n + 1) = idRows n ++ [(2 : Int) ^ n] := by simp [idRows, List.range_succ]
theorem pow_small (k : Nat) (h : k ≤ 61) : (2 : Int) ^ k ≤ 2305843009213693952 ∧ 1 ≤ (2 : Int) ^ k := by
  have h1 : (2 : Nat) ^ k ≤ 2 ^ 61 := Nat.pow_le_pow_right (by decide) h
  have h2 : 0 < (2 : Nat) ^ k := Nat.pow_pos (by decide)
  have e : ((2 : Int) ^ k) = ((2 ^ k : Nat) : Int) := by simp
  rw [e]
  constructor
  · exact Int.ofNat_le.2 h1
  · omega

attribute [local go_sem ↓] Go.wp_at_zero Go.wp_at_succ
end Go.Proofs.YtliophgfgmjhiaaGreatDoor
namespace Go.Proofs.YtliophgfgmjhiaaGreatDoor
set_option linter.unusedSimpArgs false
set_option linter.unusedVariables false
set_option linter.unnecessarySimpa false
set_option maxRecDepth 200000
open Go.ChangeShapes Go.WideShapes Go.ChangeAt Go.RowKit

theorem grown_trans {a b c : World} {row : Option Nat} (h1 : a.grownBy b row) (h2 : b.grownBy c row) : a.grownBy c row :=
  ⟨h2.os.trans h1.os, h2.tape.trans h1.tape, h2.output.trans h1.output, Nat.le_trans h1.size h2.size, fun i hi hn => (h2.block i (Nat.lt_of_lt_of_le hi h1.size) hn).trans (h1.block i hi hn)⟩

/-- What a function that answers a linear map and 'ok' leaves: the rows in a block of its own. -/
def LinPost (w : World) (r : Option (List Int)) (e : Ending) (w' : World) : Prop :=
  ∃ v, e = .returned (.tuple #[.agg #[v], .bool r.isSome]) ∧ OwnI w' w.heap.size v (r.getD []) ∧ Below w.heap.size w w'
theorem own_nil (w : World) (base : Nat) : OwnI w base (.slice none 0 0) [] := World.ownsRow_nil _ _ _ _
theorem OwnI.forms {w : World} {base : Nat} {v : Value} {zs : List Int} (h : OwnI w base v zs) : ∃ a cap, v = .slice a zs.length cap := by
  rcases Go.Joins.ownsRow_forms h with ⟨rfl, h0⟩ | ⟨g, cap, rfl⟩
  · exact ⟨none, 0, by rw [h0]⟩
  · exact ⟨_, _, rfl⟩
theorem OwnI.below {w w' : World} {base B : Nat} {v : Value} {zs : List Int} (h : OwnI w base v zs) (hb : Below B w w') (hB : B = w.heap.size) : OwnI w' base v zs := own_below h hb hB
theorem OwnI.set {w : World} {base : Nat} {v : Value} {zs : List Int} (h : OwnI w base v zs) {a : Addr} (ha : a.block < base) (u : Value) : OwnI (w.setCell a u) base v zs := ownsRow_setCell_below h ha u
theorem OwnI.le {w : World} {base base' : Nat} {v : Value} {zs : List Int} (h : OwnI w base v zs) (hb : base' ≤ base) : OwnI w base' v zs := own_le h hb

def idLin (n : Int) : Option (List Int) := if inB n 1 5 then some (idRows n.toNat) else none
theorem idLin_len (n : Int) : ((idLin n).getD []).length ≤ 1000000 := by
  unfold idLin; split
  · simp [idRows_len]; have h2 : 1 ≤ n ∧ n ≤ 5 := by simpa [inB] using (by assumption : inB n 1 5 = true)
    omega
  · simp
theorem OwnI.lt {w : World} {base : Nat} {v : Value} {zs : List Int} (h : OwnI w base v zs) : ∀ k, v.ownBlock = some k → base ≤ k ∧ k < w.heap.size := World.ownsRow.lt h
end Go.Proofs.YtliophgfgmjhiaaGreatDoor
namespace Go.Proofs.YtliophgfgmjhiaaGreatDoor
set_option linter.unusedSimpArgs false
set_option linter.unusedVariables false
set_option linter.unnecessarySimpa false
set_option maxRecDepth 200000
open Go.ChangeShapes Go.WideShapes Go.ChangeAt Go.RowKit Go.Joins

def InI64 (zs : List Int) : Prop := ∀ z ∈ zs, -9223372036854775808 ≤ z ∧ z ≤ 9223372036854775807
def IsIntS (w : World) (v : Value) : Prop := ∃ zs : List Int, RdI w v zs ∧ InI64 zs
theorem addr_none {w : World} {a : Addr} {u : Value} (h : w.cell? a = some u) : a.spot = none := by
  unfold World.cell? at h
  split at h
  · split at h
    · cases h
    · rename_i hs; simpa using hs
  · cases h
section
variable {H : Type} {enc : TypeId × Value → H} {W : World} {base : Nat} {spare : Nat → Bool} {held : Bool} {r : Reach} {b0 : Nat}
theorem cellIntS_of {n : Nat} {t e : TypeId} {v : Value} {y : DataW H × List MemPlace} (ht : Tryz.prog.underlying t = some (.slice e)) (he : Tryz.prog.underlying e = some (.int .i64)) (hc : Tryz.prog.cellsOf e = 1) (h : DataW.trod enc Tryz.prog W base spare held n t [v] = some y) : IsIntS W v := by
  rcases open_ints ht he hc h with ⟨hv, _⟩ | ⟨a, len, cap, zs, hv, _, hlc, hcm, hzl, _, hcell, hwf⟩
  · simp at hv; subst hv
    exact ⟨[], ⟨rfl, .inl ⟨⟨_, _, rfl⟩, rfl⟩⟩, fun z hz => by cases hz⟩
  · simp at hv; subst hv
    have hle : len ≤ zs.length := by rw [hzl]; split <;> omega
    have hrange : InI64 (zs.take len) := fun z hz => i64_range (hwf z (List.mem_of_mem_take hz))
    have hlen : (zs.take len).length = len := by simp; omega
    rcases Nat.eq_zero_or_pos len with h0 | h0
    · subst h0
      exact ⟨[], ⟨rfl, .inl ⟨⟨_, _, rfl⟩, rfl⟩⟩, fun z hz => by cases hz⟩
    · have c0 := hcell 0 (by omega)
      have hs : a.spot = none := by simpa [Addr.add] using addr_none c0
      obtain ⟨b, off, sp⟩ := a
      simp at hs; subst hs
      refine ⟨zs.take len, ⟨by simp, .inr ⟨b, off, cap, by rw [hlen], World.block_lt_of_cell? _ _ c0, by omega, by simpa [maxLen] using hcm, fun j u hj => ?_⟩⟩, hrange⟩
      have hj' := (List.getElem?_eq_some_iff.1 hj).1
      simp at hj'
      have := hcell j (by omega)
      rw [Addr.add_lit] at this
      rw [this, ← hj]
      have h2 : j < zs.length := by omega
      have h3 : j < len := by omega
      simp [List.getElem?_take, h3, List.getD, List.getElem?_eq_getElem h2]
end

theorem fill_step {xs ys : List Value} {k : Nat} (h : k < xs.length) (hl : xs.length = ys.length) : (xs.take k ++ ys.drop k).set k xs[k] = xs.take (k + 1) ++ ys.drop (k + 1) := by
  have hk : (xs.take k).length = k := by simp; omega
  have e : ys.drop k = ys[k]'(by omega) :: ys.drop (k + 1) := by rw [List.drop_eq_getElem_cons (by omega)]
  rw [List.set_append_right _ _ (by omega), hk, Nat.sub_self, e, List.set_cons_zero, List.take_succ_eq_append_getElem h, List.append_assoc]
  rfl
theorem fill_end {xs ys : List Value} {k : Nat} (h : xs.length ≤ k) (hl : xs.length = ys.length) : xs.take k ++ ys.drop k = xs := by
  rw [List.take_of_length_le h, List.drop_eq_nil_of_le (by omega), List.append_nil]
end Go.Proofs.YtliophgfgmjhiaaGreatDoor
namespace Go.Proofs.YtliophgfgmjhiaaGreatDoor
set_option linter.unusedSimpArgs false
set_option linter.unusedVariables false
set_option linter.unnecessarySimpa false
set_option maxRecDepth 200000
open Go.ChangeShapes Go.WideShapes Go.ChangeAt Go.RowKit

structure E2 where (a b : Int)
deriving DecidableEq
structure E3 where (a b c : Int)
deriving DecidableEq
structure E4 where (a b c d : Int)
deriving DecidableEq
structure EW where (a b : Int) (h : Bool)
deriving DecidableEq
def E2.cs (x : E2) : List Value := [.int .i64 x.a, .int .i64 x.b]
def E3.cs (x : E3) : List Value := [.int .i64 x.a, .int .i64 x.b, .int .i64 x.c]
def E4.cs (x : E4) : List Value := [.int .i64 x.a, .int .i64 x.b, .int .i64 x.c, .int .i64 x.d]
def EW.cs (x : EW) : List Value := [.int .i64 x.a, .int .i64 x.b, .bool x.h]

theorem E2.len (x : E2) : x.cs.length = 2 := rfl
theorem E3.len (x : E3) : x.cs.length = 3 := rfl
theorem E4.len (x : E4) : x.cs.length = 4 := rfl
theorem EW.len (x : EW) : x.cs.length = 3 := rfl

section
variable {α : Type} {f : α → List Value} {sz : Nat}
theorem flat_len (hf : ∀ x, (f x).length = sz) (xs : List α) : (xs.flatMap f).length = xs.length * sz := by
  induction xs with
  | nil => simp
  | cons x xs ih => simp [hf, ih, Nat.add_mul]; omega
theorem flat_get (hf : ∀ x, (f x).length = sz) : ∀ (xs : List α) (i j : Nat) (hi : i < xs.length), j < sz → (xs.flatMap f)[i * sz + j]? = (f xs[i])[j]?
  | [], _, _, hi, _ => by simp at hi
  | x :: xs, 0, j, _, hj => by
    simp only [List.flatMap_cons, Nat.zero_mul, Nat.zero_add, List.getElem_cons_zero]
    rw [List.getElem?_append_left (by rw [hf]; exact hj)]
  | x :: xs, i + 1, j, hi, hj => by
    simp only [List.flatMap_cons, List.getElem_cons_succ]
    rw [List.getElem?_append_right (by rw [hf, Nat.add_mul]; omega), hf]
    have e : (i + 1) * sz + j - sz = i * sz + j := by rw [Nat.add_mul]; omega
    rw [e]
    exact flat_get hf xs i j (by simpa using hi) hj

/-- A slice value that reads as the elements xs, each of sz cells. -/
def RdE (w : World) (v : Value) (f : α → List Value) (sz : Nat) (xs : List α) : Prop := Rd w v xs.length sz (xs.flatMap f)
/-- A slice of such elements that the call itself has made. -/
def OwnE (w : World) (base : Nat) (e : TypeId) (v : Value) (f : α → List Value) (sz : Nat) (xs : List α) : Prop := w.ownsRow base e sz v xs.length (xs.flatMap f)
theorem OwnE.rd {w : World} {base : Nat} {e : TypeId} {v : Value} {xs : List α} (h : OwnE w base e v f sz xs) : RdE w v f sz xs := Rd.of_own h
theorem OwnE.below {w w' : World} {base B : Nat} {e : TypeId} {v : Value} {xs : List α} (h : OwnE w base e v f sz xs) (hb : Below B w w') (hB : B = w.heap.size) : OwnE w' base e v f sz xs := own_below h hb hB
theorem OwnE.set {w : World} {base : Nat} {e : TypeId} {v : Value} {xs : List α} (h : OwnE w base e v f sz xs) {a : Addr} (ha : a.block < base) (u : Value) : OwnE (w.setCell a u) base e v f sz xs := ownsRow_setCell_below h ha u
theorem OwnE.lt {w : World} {base : Nat} {e : TypeId} {v : Value} {xs : List α} (h : OwnE w base e v f sz xs) : ∀ k, v.ownBlock = some k → base ≤ k ∧ k < w.heap.size := World.ownsRow.lt h
theorem OwnE.le {w : World} {base base' : Nat} {e : TypeId} {v : Value} {xs : List α} (h : OwnE w base e v f sz xs) (hb : base' ≤ base) : OwnE w base' e v f sz xs := own_le h hb
theorem OwnE.nil (w : World) (base : Nat) (e : TypeId) : OwnE w base e (.slice none 0 0) f sz ([] : List α) := World.ownsRow_nil _ _ _ _
theorem OwnE.forms {w : World} {base : Nat} {e : TypeId} {v : Value} {xs : List α} (h : OwnE w base e v f sz xs) : ∃ a cap, v = .slice a xs.length cap := by
  rcases Go.Joins.ownsRow_forms h with ⟨rfl, h0⟩ | ⟨g, cap, rfl⟩
  · exact ⟨none, 0, by rw [h0]⟩
  · exact ⟨_, _, rfl⟩
theorem RdE.below {w w' : World} {B : Nat} {v : Value} {xs : List α} (h : RdE w v f sz xs) (hb : Below B w w') (hB : B = w.heap.size) : RdE w' v f sz xs := Rd.below h hb hB
theorem RdE.form {w : World} {v : Value} {xs : List α} (h : RdE w v f sz xs) : ∃ a cap, v = .slice a xs.length cap ∧ xs.length ≤ 9223372036854775807 := by
  rcases h.2 with ⟨⟨a0, c0, rfl⟩, h0⟩ | ⟨b, off, cap, rfl, _, h1, h2, _⟩
  · exact ⟨a0, c0, by rw [h0], by omega⟩
  · exact ⟨_, _, rfl, by omega⟩
theorem RdE.cases0 {w : World} {v : Value} {xs : List α} (hf : ∀ x, (f x).length = sz) (h : RdE w v f sz xs) : (xs = [] ∧ ∃ a cap, v = .slice a 0 cap) ∨
    (0 < xs.length ∧ ∃ b off cap, v = .slice (some ⟨b, off, none⟩) xs.length cap ∧ b < w.heap.size ∧ xs.length ≤ cap ∧ cap ≤ 9223372036854775807 ∧ ∀ i (hi : i < xs.length) j u, j < sz → (f xs[i])[j]? = some u → w.cell? ⟨b, off + (i * sz + j), none⟩ = some u) := by
  rcases h.2 with ⟨⟨a0, c0, rfl⟩, h0⟩ | ⟨b, off, cap, rfl, h1, h2, h3, h4⟩
  · exact .inl ⟨List.eq_nil_of_length_eq_zero h0, a0, c0, rfl⟩
  · rcases Nat.eq_zero_or_pos xs.length with h0 | h0
    · exact .inl ⟨List.eq_nil_of_length_eq_zero h0, _, _, by rw [h0]⟩
    · exact .inr ⟨h0, b, off, cap, rfl, h1, h2, h3, fun i hi j u hj hu => h4 _ u (by rw [flat_get hf xs i j hi hj]; exact hu)⟩
end
theorem own_lit0 {α : Type} {f : α → List Value} {sz : Nat} (w : World) (base : Nat) (e : TypeId) (g : Nat) (hg : g = w.heap.size) (hb : base ≤ g) : OwnE (w.alloc (.cells #[] e)) base e (.slice (some ⟨g, 0, none⟩) 0 0) f sz ([] : List α) := by
  subst hg
  refine ⟨by simp, .inr ⟨w.heap.size, 0, #[], rfl, hb, ?_, Nat.le_refl _, Nat.zero_le _, by simp, by simp⟩⟩
  show (w.heap.push _)[w.heap.size]? = _
  simp
theorem take_nextE {α : Type} (xs : List α) (k : Nat) (h : k < xs.length) : xs.take (k + 1) = xs.take k ++ [xs[k]] := List.take_succ_eq_append_getElem h
theorem eqE_step {α : Type} {xs ys : List α} {k : Nat} (h : Hid (xs.take k = ys.take k)) (h1 : k < xs.length) (h2 : k < ys.length) (he : xs[k] = ys[k]) : Hid (xs.take (k + 1) = ys.take (k + 1)) := by
  show _ = _
  rw [take_nextE xs k h1, take_nextE ys k h2, h.out, he]
theorem eqE_fail {α : Type} [DecidableEq α] {xs ys : List α} {k : Nat} (h1 : k < xs.length) (h2 : k < ys.length) (he : ¬ xs[k] = ys[k]) : false = decide (xs = ys) := by
  symm; rw [decide_eq_false_iff_not]; rintro rfl; exact he rfl
theorem eqE_end {α : Type} [DecidableEq α] {xs ys : List α} {k : Nat} (h : Hid (xs.take k = ys.take k)) (h1 : xs.length ≤ k) (h2 : ys.length ≤ k) : true = decide (xs = ys) := by
  have h := h.out
  rw [List.take_of_length_le h1, List.take_of_length_le h2] at h
  simp [h]
/-- What a function that answers a list of gates and 'ok' leaves: the gates in a block of its own. -/
def SlPost {α : Type} (f : α → List Value) (sz : Nat) (t : TypeId) (w : World) (r : Option (List α)) (e : Ending) (w' : World) : Prop :=
  ∃ v, e = .returned (.tuple #[v, .bool r.isSome]) ∧ OwnE w' w.heap.size t v f sz (r.getD []) ∧ Below w.heap.size w w'
theorem SlPost.none {α : Type} {f : α → List Value} {sz : Nat} {t : TypeId} {w w' : World} {r : Option (List α)} (hr : r = none) (hb : Below w.heap.size w w') : SlPost f sz t w r (.returned (.tuple #[.slice none 0 0, .bool false])) w' := by
  subst hr; exact ⟨_, rfl, OwnE.nil _ _ _, hb⟩
theorem SlPost.some {α : Type} {f : α → List Value} {sz : Nat} {t : TypeId} {w w' : World} {r : Option (List α)} {xs : List α} {v : Value} (hr : r = some xs) (ho : OwnE w' w.heap.size t v f sz xs) (hb : Below w.heap.size w w') : SlPost f sz t w r (.returned (.tuple #[v, .bool true])) w' := by
  subst hr; exact ⟨_, rfl, ho, hb⟩

end Go.Proofs.YtliophgfgmjhiaaGreatDoor
namespace Go.Proofs.YtliophgfgmjhiaaGreatDoor
set_option linter.unusedSimpArgs false
set_option linter.unusedVariables false
set_option linter.unnecessarySimpa false
set_option maxRecDepth 200000
open Go.ChangeShapes Go.WideShapes Go.ChangeAt Go.RowKit Go.Joins Go.Deep

structure Circ where (n : Int) (gs : List E3)
deriving DecidableEq
structure Tab where (n : Int) (xs : List E3) (zs : List E3)
deriving DecidableEq
structure PP where (n : Int) (ph : Int) (ts : List E2) (out : List Int)
deriving DecidableEq
structure Dia where (n : Int) (ns : List E2) (ws : List EW) (turn : Int) (root : Int)
deriving DecidableEq
def Circ.zero : Circ := ⟨0, []⟩
def Tab.zero : Tab := ⟨0, [], []⟩
def PP.zero : PP := ⟨0, 0, [], []⟩
def Dia.zero : Dia := ⟨0, [], [], 0, 0⟩
/-- Two slices do not lie in one block. -/
def Apart (u v : Value) : Prop := ∀ g, u.ownBlock = some g → v.ownBlock ≠ some g
def I64 (z : Int) : Prop := -9223372036854775808 ≤ z ∧ z ≤ 9223372036854775807
def In2 (xs : List E2) : Prop := ∀ x ∈ xs, I64 x.a ∧ I64 x.b
def In3 (xs : List E3) : Prop := ∀ x ∈ xs, I64 x.a ∧ I64 x.b ∧ I64 x.c
def InW (xs : List EW) : Prop := ∀ x ∈ xs, I64 x.a ∧ I64 x.b
def IsE2S (w : World) (v : Value) : Prop := ∃ xs : List E2, RdE w v E2.cs 2 xs ∧ In2 xs
def IsE3S (w : World) (v : Value) : Prop := ∃ xs : List E3, RdE w v E3.cs 3 xs ∧ In3 xs
def IsEWS (w : World) (v : Value) : Prop := ∃ xs : List EW, RdE w v EW.cs 3 xs ∧ InW xs

theorem own_form {w : World} {base sz n : Nat} {e : TypeId} {v : Value} {xs : List Value} (h : w.ownsRow base e sz v n xs) : ∃ a cap, v = .slice a n cap := by
  rcases Go.Joins.ownsRow_forms h with ⟨rfl, h0⟩ | ⟨g, cap, rfl⟩
  · exact ⟨none, 0, by rw [h0]⟩
  · exact ⟨_, _, rfl⟩
theorem Rd.form_any {w : World} {v : Value} {n sz : Nat} {xs : List Value} (h : Rd w v n sz xs) : ∃ a cap, v = .slice a n cap := by
  rcases h.2 with ⟨⟨a0, c0, rfl⟩, h0⟩ | ⟨b, off, cap, rfl, _⟩
  · exact ⟨a0, c0, by rw [h0]⟩
  · exact ⟨_, _, rfl⟩
theorem own_other {w w' : World} {base sz n : Nat} {e : TypeId} {v v' : Value} {xs : List Value} (hg : w.grownBy w' v'.ownBlock) (ho : w.ownsRow base e sz v n xs) (h : ∀ g, v.ownBlock = some g → v'.ownBlock = some g → False) : w'.ownsRow base e sz v n xs := by
  refine ⟨ho.1, ?_⟩
  rcases ho.2 with h0 | ⟨g, cap, cur, rfl, hbg, hg2, r⟩
  · exact .inl h0
  · exact .inr ⟨g, cap, cur, rfl, hbg, by rw [hg.block g (Array.getElem?_eq_some_iff.1 hg2).1 (fun hh => h g rfl hh.symm)]; exact hg2, r⟩
theorem grown_cell_new {w w1 : World} {X : Obj} {base sz n o : Nat} {e : TypeId} {v u : Value} {xs : List Value} (hg : (w.alloc X).grownBy w1 v.ownBlock) (h0 : w.ownsRow base e sz v n xs) (hc : (w.alloc X).cell? ⟨w.heap.size, o, none⟩ = some u) : w1.cell? ⟨w.heap.size, o, none⟩ = some u := by
  have hb := hg.block w.heap.size (by simp) (fun hh => by have := (World.ownsRow.lt h0 _ hh.symm).2; omega)
  rw [World.cell?_of_block (w := w.alloc X) (w' := w1) (a := ⟨w.heap.size, o, none⟩) hb]; exact hc

section
variable {H : Type} {enc : TypeId × Value → H} {P : Program} {w : World} {base : Nat} {spare : Nat → Bool} {held : Bool}
theorem open_slice_fields {t e : TypeId} {fs : Array Field} {fuel : Nat} {cs : List Value} {x : DataW H × List MemPlace} (ht : P.underlying t = some (.slice e)) (he : P.underlying e = some (.struct fs))
    (hone : oneCellFields P fs = true) (hC : P.cellsOf e = fs.size) (h : DataW.trod enc P w base spare held fuel t cs = some x) :
    (cs = [.slice none 0 0] ∧ x = (.nil, [])) ∨
    ∃ (a : Addr) (len cap m : Nat) (D : Nat → DataW H) (Pl : Nat → List MemPlace), cs = [.slice (some a) len cap] ∧ base ≤ a.block ∧ len ≤ cap ∧ cap ≤ maxLen ∧ m = (if spare a.block then cap else len) ∧
      x = (.slice ((List.range len).map D) ((List.range (m - len)).map fun j => D (len + j)), MemPlace.row a (m * fs.size) ++ (List.range m).flatMap Pl) ∧
      ∀ i, i < m → ∃ (ys : List (DataW H × List MemPlace)) (n : Nat), D i = .agg (ys.map (·.1)) ∧ Pl i = ys.flatMap (·.2) ∧ ys.length = fs.size ∧
        ∀ (j : Nat) (f : Field), fs[j]? = some f → ∃ (v : Value) (y : DataW H × List MemPlace), w.cell? (a.add (i * fs.size + j)) = some v ∧ ys[j]? = some y ∧ DataW.trod enc P w base spare held n f.type [v] = some y := by
  rcases open_slice ht h with h0 | ⟨a, len, cap, m, n, D, Pl, hcs, hb, hl, hm, hmm, hx, hi⟩
  · exact .inl h0
  · refine .inr ⟨a, len, cap, m, D, Pl, hcs, hb, hl, hm, hmm, by rw [hC] at hx; exact hx, fun i him => ?_⟩
    obtain ⟨cs', hc, ht'⟩ := hi i him
    rw [hC] at hc
    obtain ⟨ys, n', hn', hy, hlen, hyl, hf⟩ := DataW.trod_struct he ht'
    obtain ⟨_, hcl, hat⟩ := World.cells?_some hc
    simp only [Prod.mk.injEq] at hy
    refine ⟨ys, n', hy.1, hy.2, hyl, fun j f hj => ?_⟩
    obtain ⟨ho, hk⟩ := hone_of hone j f hj
    have hjl : j < fs.size := (Array.getElem?_eq_some_iff.1 hj).1
    have hcell := hat j hjl
    have hv : cs'[j]? = some (cs'[j]'(by omega)) := List.getElem?_eq_getElem (by omega)
    have h1 := hf j f hj
    rw [ho, hk] at h1
    have hone' : (cs'.drop j).take 1 = [cs'[j]'(by omega)] := by
      rw [List.drop_eq_getElem_cons (by omega)]
      rfl
    rw [hone'] at h1
    have hys : ys[j]? = some (ys[j]'(by omega)) := List.getElem?_eq_getElem (by omega)
    refine ⟨_, _, ?_, hys, h1.trans hys⟩
    rw [← Go.Deep.add_add, hcell, hv]
/-- Slices of structs: out of what each element's cells are. -/
theorem rdE_of {α : Type} {f : α → List Value} {sz : Nat} (hf : ∀ x, (f x).length = sz) (hs0 : 0 < sz) {a : Addr} {len cap : Nat} (hlc : len ≤ cap) (hcm : cap ≤ maxLen) (R : α → Prop)
    (h : ∀ i, i < len → ∃ x : α, R x ∧ ∀ j u, (f x)[j]? = some u → w.cell? (a.add (i * sz + j)) = some u) :
    ∃ xs : List α, RdE w (.slice (some a) len cap) f sz xs ∧ ∀ x ∈ xs, R x := by
  have hx : ∃ xs : List α, xs.length = len ∧ (∀ x ∈ xs, R x) ∧ ∀ i (hi : i < xs.length), ∀ j u, (f xs[i])[j]? = some u → w.cell? (a.add (i * sz + j)) = some u := by
    clear hlc
    induction len with
    | zero => exact ⟨[], rfl, by simp, fun i hi => by simp at hi⟩
    | succ n ih =>
      obtain ⟨xs, h1, h2, h3⟩ := ih (fun i hi => h i (by omega))
      obtain ⟨x, hr, hc⟩ := h n (by omega)
      refine ⟨xs ++ [x], by simp [h1], ?_, ?_⟩
      · intro y hy
        rcases List.mem_append.1 hy with hy | hy
        · exact h2 y hy
        · simp at hy; subst hy; exact hr
      · intro i hi j u hu
        simp at hi
        by_cases hlt : i < xs.length
        · rw [List.getElem_append_left hlt] at hu
          exact h3 i hlt j u hu
        · have e : i = xs.length := by omega
          subst e
          rw [List.getElem_append_right (Nat.le_refl _)] at hu
          simp at hu
          rw [h1]
          exact hc j u hu
  obtain ⟨xs, rfl, h2, h3⟩ := hx
  refine ⟨xs, ⟨flat_len hf xs, ?_⟩, h2⟩
  rcases Nat.eq_zero_or_pos xs.length with h0 | h0
  · exact .inl ⟨⟨some a, cap, by rw [h0]⟩, h0⟩
  · obtain ⟨u, hu⟩ : ∃ u, (f xs[0])[0]? = some u := ⟨(f xs[0])[0]'(by rw [hf]; omega), List.getElem?_eq_getElem _⟩
    have c0 := h3 0 h0 0 u hu
    have hs : a.spot = none := by simpa [Addr.add] using addr_none c0
    obtain ⟨b, off, sp⟩ := a
    simp at hs; subst hs
    refine .inr ⟨b, off, cap, rfl, (by have h := World.block_lt_of_cell? _ _ c0; rw [Addr.add_lit] at h; exact h), hlc, by simpa [maxLen] using hcm, fun j u hj => ?_⟩
    have hjl : j < xs.length * sz := by have := (List.getElem?_eq_some_iff.1 hj).1; rwa [flat_len hf] at this
    have hd : j / sz < xs.length := Nat.div_lt_of_lt_mul (by rwa [Nat.mul_comm])
    have e : j = j / sz * sz + j % sz := by rw [Nat.mul_comm]; exact (Nat.div_add_mod j sz).symm
    rw [e, flat_get hf xs _ _ hd (Nat.mod_lt _ hs0)] at hj
    have := h3 _ hd _ u hj
    rw [Addr.add_lit, ← e] at this
    exact this
end
section
variable {H : Type} {enc : TypeId × Value → H} {W : World} {base : Nat} {spare : Nat → Bool} {held : Bool} {r : Reach} {b0 : Nat}
theorem cellBool_of {n : Nat} {t : TypeId} (ht : Tryz.prog.underlying t = some .bool) {v : Value} {y : DataW H × List MemPlace} (h : DataW.trod enc Tryz.prog W base spare held n t [v] = some y) : ∃ b, v = .bool b := by
  obtain ⟨b, hb, _⟩ := DataW.trod_bool ht h
  exact ⟨b, by simpa using hb⟩
theorem cellE2S_of {n : Nat} {t e : TypeId} {f0 f1 : Field} {v : Value} {y : DataW H × List MemPlace} (ht : Tryz.prog.underlying t = some (.slice e)) (he : Tryz.prog.underlying e = some (.struct #[f0, f1])) (h0 : Tryz.prog.underlying f0.type = some (.int .i64)) (h1 : Tryz.prog.underlying f1.type = some (.int .i64))
    (hone : oneCellFields Tryz.prog #[f0, f1] = true) (hC : Tryz.prog.cellsOf e = 2) (h : DataW.trod enc Tryz.prog W base spare held n t [v] = some y) : IsE2S W v := by
  rcases open_slice_fields ht he hone hC h with ⟨hv, _⟩ | ⟨a, len, cap, m, D, Pl, hv, _, hlc, hcm, hm, _, hel⟩
  · simp at hv; subst hv
    exact ⟨[], ⟨rfl, .inl ⟨⟨_, _, rfl⟩, rfl⟩⟩, fun z hz => by cases hz⟩
  · simp at hv; subst hv
    refine rdE_of (f := E2.cs) (R := fun x => I64 x.a ∧ I64 x.b) E2.len (by omega) hlc hcm (fun i hi => ?_)
    obtain ⟨ys, n', _, _, _, hf⟩ := hel i (by rw [hm]; split <;> omega)
    obtain ⟨u0, y0, c0, _, t0⟩ := hf 0 f0 rfl
    obtain ⟨u1, y1, c1, _, t1⟩ := hf 1 f1 rfl
    obtain ⟨z0, rfl, r0, r0'⟩ := cellInt_of h0 t0
    obtain ⟨z1, rfl, r1, r1'⟩ := cellInt_of h1 t1
    refine ⟨⟨z0, z1⟩, ⟨⟨r0, r0'⟩, r1, r1'⟩, fun j u hu => ?_⟩
    match j, hu with
    | 0, hu => simp [E2.cs] at hu; subst hu; exact c0
    | 1, hu => simp [E2.cs] at hu; subst hu; exact c1
theorem cellE3S_of {n : Nat} {t e : TypeId} {f0 f1 f2 : Field} {v : Value} {y : DataW H × List MemPlace} (ht : Tryz.prog.underlying t = some (.slice e)) (he : Tryz.prog.underlying e = some (.struct #[f0, f1, f2])) (h0 : Tryz.prog.underlying f0.type = some (.int .i64)) (h1 : Tryz.prog.underlying f1.type = some (.int .i64)) (h2 : Tryz.prog.underlying f2.type = some (.int .i64))
    (hone : oneCellFields Tryz.prog #[f0, f1, f2] = true) (hC : Tryz.prog.cellsOf e = 3) (h : DataW.trod enc Tryz.prog W base spare held n t [v] = some y) : IsE3S W v := by
  rcases open_slice_fields ht he hone hC h with ⟨hv, _⟩ | ⟨a, len, cap, m, D, Pl, hv, _, hlc, hcm, hm, _, hel⟩
  · simp at hv; subst hv
    exact ⟨[], ⟨rfl, .inl ⟨⟨_, _, rfl⟩, rfl⟩⟩, fun z hz => by cases hz⟩
  · simp at hv; subst hv
    refine rdE_of (f := E3.cs) (R := fun x => I64 x.a ∧ I64 x.b ∧ I64 x.c) E3.len (by omega) hlc hcm (fun i hi => ?_)
    obtain ⟨ys, n', _, _, _, hf⟩ := hel i (by rw [hm]; split <;> omega)
    obtain ⟨u0, y0, c0, _, t0⟩ := hf 0 f0 rfl
    obtain ⟨u1, y1, c1, _, t1⟩ := hf 1 f1 rfl
    obtain ⟨u2, y2, c2, _, t2⟩ := hf 2 f2 rfl
    obtain ⟨z0, rfl, r0, r0'⟩ := cellInt_of h0 t0
    obtain ⟨z1, rfl, r1, r1'⟩ := cellInt_of h1 t1
    obtain ⟨z2, rfl, r2, r2'⟩ := cellInt_of h2 t2
    refine ⟨⟨z0, z1, z2⟩, ⟨⟨r0, r0'⟩, ⟨r1, r1'⟩, r2, r2'⟩, fun j u hu => ?_⟩
    match j, hu with
    | 0, hu => simp [E3.cs] at hu; subst hu; exact c0
    | 1, hu => simp [E3.cs] at hu; subst hu; exact c1
    | 2, hu => simp [E3.cs] at hu; subst hu; exact c2
theorem cellEWS_of {n : Nat} {t e : TypeId} {f0 f1 f2 : Field} {v : Value} {y : DataW H × List MemPlace} (ht : Tryz.prog.underlying t = some (.slice e)) (he : Tryz.prog.underlying e = some (.struct #[f0, f1, f2])) (h0 : Tryz.prog.underlying f0.type = some (.int .i64)) (h1 : Tryz.prog.underlying f1.type = some (.int .i64)) (h2 : Tryz.prog.underlying f2.type = some .bool)
    (hone : oneCellFields Tryz.prog #[f0, f1, f2] = true) (hC : Tryz.prog.cellsOf e = 3) (h : DataW.trod enc Tryz.prog W base spare held n t [v] = some y) : IsEWS W v := by
  rcases open_slice_fields ht he hone hC h with ⟨hv, _⟩ | ⟨a, len, cap, m, D, Pl, hv, _, hlc, hcm, hm, _, hel⟩
  · simp at hv; subst hv
    exact ⟨[], ⟨rfl, .inl ⟨⟨_, _, rfl⟩, rfl⟩⟩, fun z hz => by cases hz⟩
  · simp at hv; subst hv
    refine rdE_of (f := EW.cs) (R := fun x => I64 x.a ∧ I64 x.b) EW.len (by omega) hlc hcm (fun i hi => ?_)
    obtain ⟨ys, n', _, _, _, hf⟩ := hel i (by rw [hm]; split <;> omega)
    obtain ⟨u0, y0, c0, _, t0⟩ := hf 0 f0 rfl
    obtain ⟨u1, y1, c1, _, t1⟩ := hf 1 f1 rfl
    obtain ⟨u2, y2, c2, _, t2⟩ := hf 2 f2 rfl
    obtain ⟨z0, rfl, r0, r0'⟩ := cellInt_of h0 t0
    obtain ⟨z1, rfl, r1, r1'⟩ := cellInt_of h1 t1
    obtain ⟨z2, rfl⟩ := cellBool_of h2 t2
    refine ⟨⟨z0, z1, z2⟩, ⟨⟨r0, r0'⟩, r1, r1'⟩, fun j u hu => ?_⟩
    match j, hu with
    | 0, hu => simp [EW.cs] at hu; subst hu; exact c0
    | 1, hu => simp [EW.cs] at hu; subst hu; exact c1
    | 2, hu => simp [EW.cs] at hu; subst hu; exact c2
theorem open_agg1 {t : TypeId} {f0 : Field} {v : Value} {d : DataW H} {p : List MemPlace} (hs : Tryz.prog.underlying t = some (.struct #[f0])) (hone : oneCellFields Tryz.prog #[f0] = true) (hC : Tryz.prog.cellsOf t = 1)
    (hv : Value.okWide Tryz.prog W r b0 t v) (h : DataW.Trod enc Tryz.prog W base spare held t v d p) : ∃ (v0 : Value) (y0 : DataW H × List MemPlace) (n : Nat), v = .agg #[v0] ∧ DataW.trod enc Tryz.prog W base spare held n f0.type [v0] = some y0 := by
  obtain ⟨cs, rfl, hsz⟩ := okWide_struct hs hv
  obtain ⟨l⟩ := cs
  match l, hsz.trans hC with
  | [c0], _ =>
    obtain ⟨fuel, hf⟩ := h
    obtain ⟨y0, n, hx, _, h0⟩ := trod_struct1 hs hf
    obtain ⟨o0, k0⟩ := hone_of hone 0 f0 rfl
    exact ⟨c0, y0, n, rfl, by simpa [Value.cells, o0, k0] using h0⟩
theorem open_agg5 {t : TypeId} {f0 f1 f2 f3 f4 : Field} {v : Value} {d : DataW H} {p : List MemPlace} (hs : Tryz.prog.underlying t = some (.struct #[f0, f1, f2, f3, f4])) (hone : oneCellFields Tryz.prog #[f0, f1, f2, f3, f4] = true) (hC : Tryz.prog.cellsOf t = 5)
    (hv : Value.okWide Tryz.prog W r b0 t v) (h : DataW.Trod enc Tryz.prog W base spare held t v d p) :
    ∃ (v0 v1 v2 v3 v4 : Value) (y0 y1 y2 y3 y4 : DataW H × List MemPlace) (n : Nat), v = .agg #[v0, v1, v2, v3, v4] ∧
      DataW.trod enc Tryz.prog W base spare held n f0.type [v0] = some y0 ∧ DataW.trod enc Tryz.prog W base spare held n f1.type [v1] = some y1 ∧ DataW.trod enc Tryz.prog W base spare held n f2.type [v2] = some y2 ∧ DataW.trod enc Tryz.prog W base spare held n f3.type [v3] = some y3 ∧ DataW.trod enc Tryz.prog W base spare held n f4.type [v4] = some y4 := by
  obtain ⟨cs, rfl, hsz⟩ := okWide_struct hs hv
  obtain ⟨l⟩ := cs
  match l, hsz.trans hC with
  | [c0, c1, c2, c3, c4], _ =>
    obtain ⟨fuel, hf⟩ := h
    obtain ⟨xs, n, _, hx, _, hlen, hg⟩ := DataW.trod_struct hs hf
    obtain ⟨o0, k0⟩ := hone_of hone 0 f0 rfl
    obtain ⟨o1, k1⟩ := hone_of hone 1 f1 rfl
    obtain ⟨o2, k2⟩ := hone_of hone 2 f2 rfl
    obtain ⟨o3, k3⟩ := hone_of hone 3 f3 rfl
    obtain ⟨o4, k4⟩ := hone_of hone 4 f4 rfl
    match xs, hlen with
    | [y0, y1, y2, y3, y4], _ =>
      exact ⟨c0, c1, c2, c3, c4, y0, y1, y2, y3, y4, n, rfl, by simpa [Value.cells, o0, k0] using hg 0 f0 rfl, by simpa [Value.cells, o1, k1] using hg 1 f1 rfl, by simpa [Value.cells, o2, k2] using hg 2 f2 rfl, by simpa [Value.cells, o3, k3] using hg 3 f3 rfl, by simpa [Value.cells, o4, k4] using hg 4 f4 rfl⟩

def IsIntSA (w : World) (v : Value) : Prop := ∃ zs : List Int, RdI w v zs ∧ InI64 zs
def IsTermS (w : World) (v : Value) : Prop := IsE2S w v
def IsRewriteS (w : World) (v : Value) : Prop := IsE3S w v
def IsPauli (v : Value) : Prop := ∃ x : E3, v = .agg #[.int .i64 x.a, .int .i64 x.b, .int .i64 x.c] ∧ I64 x.a ∧ I64 x.b ∧ I64 x.c
def IsLinear (w : World) (v : Value) : Prop := ∃ (d : List Int) (v0 : Value), v = .agg #[v0] ∧ RdI w v0 d ∧ InI64 d
def IsCircuit (w : World) (v : Value) : Prop := ∃ (d : Circ) (v0 : Value), v = .agg #[.int .i64 d.n, v0] ∧ RdE w v0 E3.cs 3 d.gs ∧ (I64 d.n ∧ In3 d.gs)
def IsTableau (w : World) (v : Value) : Prop := ∃ (d : Tab) (v0 v1 : Value), v = .agg #[.int .i64 d.n, v0, v1] ∧ RdE w v0 E3.cs 3 d.xs ∧ RdE w v1 E3.cs 3 d.zs ∧ (I64 d.n ∧ In3 d.xs ∧ In3 d.zs)
def IsPhasePoly (w : World) (v : Value) : Prop := ∃ (d : PP) (v0 v1 : Value), v = .agg #[.int .i64 d.n, .int .i64 d.ph, v0, v1] ∧ RdE w v0 E2.cs 2 d.ts ∧ RdI w v1 d.out ∧ (I64 d.n ∧ I64 d.ph ∧ In2 d.ts ∧ InI64 d.out)
def IsDiagram (w : World) (v : Value) : Prop := ∃ (d : Dia) (v0 v1 : Value), v = .agg #[.int .i64 d.n, v0, v1, .int .i64 d.turn, .int .i64 d.root] ∧ RdE w v0 E2.cs 2 d.ns ∧ RdE w v1 EW.cs 3 d.ws ∧ (I64 d.n ∧ I64 d.turn ∧ I64 d.root ∧ In2 d.ns ∧ InW d.ws)
theorem isIntS_of {v : Value} {d : DataW H} {p : List MemPlace} (hv : Value.okWide Tryz.prog W r b0 68 v) (h : DataW.Trod enc Tryz.prog W base spare held 68 v d p) : IsIntS W v := by
  obtain ⟨fuel, hf⟩ := h
  obtain ⟨cs, hcs, hl⟩ : ∃ c, v.cells.toList = [c] ∧ v = c := by
    obtain ⟨a, n, c, rfl⟩ := okWide_slice Tryz.underlying68 hv
    exact ⟨_, rfl, rfl⟩
  rw [hcs] at hf; subst hl
  exact cellIntS_of Tryz.underlying68 Tryz.underlying3 (by kernel_rfl) hf
end
end Go.Proofs.YtliophgfgmjhiaaGreatDoor
namespace Go.Proofs.YtliophgfgmjhiaaGreatDoor
set_option linter.unusedSimpArgs false
set_option linter.unusedVariables false
set_option linter.unnecessarySimpa false
set_option maxRecDepth 200000
open Go.ChangeShapes Go.WideShapes Go.ChangeAt Go.RowKit

def zxHead (d : Dia) : Prop := (1 ≤ d.n ∧ d.n ≤ 5) ∧ d.ns.length ≤ 40 ∧ (0 ≤ d.turn ∧ d.turn ≤ 7) ∧ (-60 ≤ d.root ∧ d.root ≤ 60)
def lessW (x y : EW) : Prop := x.a < y.a ∨ (x.a = y.a ∧ x.b < y.b)
def zxWire (d : Dia) (i : Nat) : Prop := (0 ≤ (d.ws.getD i ⟨0, 0, false⟩).a ∧ (d.ws.getD i ⟨0, 0, false⟩).a < (d.ws.getD i ⟨0, 0, false⟩).b ∧ (d.ws.getD i ⟨0, 0, false⟩).b < (d.ns.length : Int)) ∧ (i ≠ 0 → lessW (d.ws.getD (i - 1) ⟨0, 0, false⟩) (d.ws.getD i ⟨0, 0, false⟩))
def touchB (k : Int) (x : EW) : Bool := decide (x.a = k) || decide (x.b = k)
def degTo (ws : List EW) (k : Int) (i : Nat) : Nat := ((ws.take i).filter (touchB k)).length
def degW (ws : List EW) (k : Int) : Nat := (ws.filter (touchB k)).length
def isN (n : Int) (x : E2) : Prop := (x.a = 0 ∧ x.b = 0) ∨ ((x.a = 1 ∨ x.a = 2) ∧ 0 ≤ x.b ∧ x.b ≤ n - 1) ∨ (x.a = 3 ∧ 0 ≤ x.b ∧ x.b ≤ 7)
def degOk (d : Dia) (k : Nat) : Prop := ((d.ns.getD k ⟨0, 0⟩).a = 0 → degW d.ws k = 0) ∧ ((d.ns.getD k ⟨0, 0⟩).a = 1 ∨ (d.ns.getD k ⟨0, 0⟩).a = 2 → degW d.ws k = 1)
def zxNode (d : Dia) (k : Nat) : Prop := isN d.n (d.ns.getD k ⟨0, 0⟩) ∧ degOk d k
def sameN (a b : Int) (x : E2) : Bool := decide (x.a = a) && decide (x.b = b)
def cntTo (ns : List E2) (a b : Int) (i : Nat) : Nat := ((ns.take i).filter (sameN a b)).length
def cntN (ns : List E2) (a b : Int) : Nat := (ns.filter (sameN a b)).length
def endB (x : E2) : Bool := decide (x.a = 1) || decide (x.a = 2)
def endTo (ns : List E2) (i : Nat) : Nat := ((ns.take i).filter endB).length
def endN (ns : List E2) : Nat := (ns.filter endB).length
def endsS (d : Dia) : Prop := ∀ a : Int, 1 ≤ a → a ≤ 2 → ∀ q : Int, 0 ≤ q → q < d.n → cntN d.ns a q = 1
def endsI (d : Dia) : Prop := (∀ q : Int, 0 ≤ q → q < d.n → ⟨1, q⟩ ∈ d.ns ∧ ⟨2, q⟩ ∈ d.ns) ∧ (endN d.ns : Int) = 2 * d.n
/-- The reference's test. -/
def GoodS (d : Dia) : Prop := zxHead d ∧ (∀ i, i < d.ws.length → zxWire d i) ∧ (∀ k, k < d.ns.length → zxNode d k) ∧ endsS d
/-- The program's test. -/
def GoodI (d : Dia) : Prop := zxHead d ∧ (∀ x ∈ d.ns, isN d.n x) ∧ endsI d ∧ (∀ i, i < d.ws.length → zxWire d i) ∧ (∀ k, k < d.ns.length → degOk d k)
theorem filt_succ {α : Type} (f : α → Bool) (dx : α) (xs : List α) (k : Nat) (h : k < xs.length) : ((xs.take (k + 1)).filter f).length = ((xs.take k).filter f).length + (if f (xs.getD k dx) = true then 1 else 0) := by
  have e : xs.getD k dx = xs[k] := by simp [List.getD, h]
  rw [List.take_succ_eq_append_getElem h, List.filter_append, List.length_append, e]
  cases hb : f xs[k] <;> simp [List.filter, hb]
theorem filt_all {α : Type} (f : α → Bool) (xs : List α) (k : Nat) (h : xs.length ≤ k) : ((xs.take k).filter f).length = (xs.filter f).length := by rw [List.take_of_length_le h]
theorem filt_le {α : Type} (f : α → Bool) (xs : List α) (k : Nat) : ((xs.take k).filter f).length ≤ k := by
  have h1 := List.length_filter_le f (xs.take k)
  have h2 := List.length_take_le k xs
  omega
/-- Inputs and outputs, counted by kind and qubit. -/
theorem ends_sum : ∀ {ns : List E2}, (∀ x ∈ ns, isN 5 x) → endN ns = cntN ns 1 0 + cntN ns 1 1 + cntN ns 1 2 + cntN ns 1 3 + cntN ns 1 4 + (cntN ns 2 0 + cntN ns 2 1 + cntN ns 2 2 + cntN ns 2 3 + cntN ns 2 4)
  | [], _ => rfl
  | x :: l, h => by
    have ih := ends_sum (ns := l) fun y hy => h y (List.mem_cons_of_mem _ hy)
    have hx := h x (List.mem_cons_self ..)
    have hc : ∀ a b, cntN (x :: l) a b = cntN l a b + (if sameN a b x = true then 1 else 0) := fun a b => by
      unfold cntN
      cases hb : sameN a b x <;> simp [List.filter, hb]
    have he : endN (x :: l) = endN l + (if endB x = true then 1 else 0) := by
      unfold endN
      cases hb : endB x <;> simp [List.filter, hb]
    rw [he, ih]
    simp only [hc]
    obtain ⟨a, b⟩ := x
    unfold isN at hx
    simp only [sameN, endB, Bool.and_eq_true, Bool.or_eq_true, decide_eq_true_eq] at *
    rcases hx with ⟨rfl, rfl⟩ | ⟨ha, h0, h1⟩ | ⟨rfl, _⟩
    · simp
    · have hb : b = 0 ∨ b = 1 ∨ b = 2 ∨ b = 3 ∨ b = 4 := by omega
      rcases ha with rfl | rfl <;> rcases hb with rfl | rfl | rfl | rfl | rfl <;> simp <;> omega
    · simp
theorem cnt_zero {n : Int} {ns : List E2} (h : ∀ x ∈ ns, isN n x) {a b : Int} (ha : a = 1 ∨ a = 2) (hb : n ≤ b) : cntN ns a b = 0 := by
  unfold cntN
  rw [List.length_eq_zero_iff, List.filter_eq_nil_iff]
  intro x hx h9
  have h1 := h x hx
  unfold sameN at h9
  simp only [Bool.and_eq_true, decide_eq_true_eq] at h9
  unfold isN at h1
  omega
theorem cnt_pos {ns : List E2} {a b : Int} : ⟨a, b⟩ ∈ ns ↔ 0 < cntN ns a b := by
  unfold cntN
  rw [List.length_pos_iff_exists_mem]
  constructor
  · intro h
    exact ⟨_, List.mem_filter.2 ⟨h, by simp [sameN]⟩⟩
  · rintro ⟨x, hx⟩
    obtain ⟨h1, h2⟩ := List.mem_filter.1 hx
    unfold sameN at h2
    simp only [Bool.and_eq_true, decide_eq_true_eq] at h2
    obtain ⟨c, e⟩ := x
    obtain ⟨rfl, rfl⟩ := h2
    exact h1
theorem ends_same {d : Dia} (hn : 1 ≤ d.n ∧ d.n ≤ 5) (h : ∀ x ∈ d.ns, isN d.n x) : endsS d ↔ endsI d := by
  have h5 : ∀ x ∈ d.ns, isN 5 x := fun x hx => by have := h x hx; unfold isN at this ⊢; omega
  have hs := ends_sum h5
  unfold endsS endsI
  constructor
  · intro hA
    have a0 := fun a ha hb => hA a ha hb 0
    have a1 := fun a ha hb => hA a ha hb 1
    have a2 := fun a ha hb => hA a ha hb 2
    have a3 := fun a ha hb => hA a ha hb 3
    have a4 := fun a ha hb => hA a ha hb 4
    have z := fun (a : Int) (ha : a = 1 ∨ a = 2) (b : Int) (hb : d.n ≤ b) => cnt_zero h ha hb
    refine ⟨fun q h0 h1 => ⟨cnt_pos.2 ?_, cnt_pos.2 ?_⟩, ?_⟩
    · rw [hA 1 (by decide) (by decide) q h0 h1]; decide
    · rw [hA 2 (by decide) (by decide) q h0 h1]; decide
    · have e : d.n = 1 ∨ d.n = 2 ∨ d.n = 3 ∨ d.n = 4 ∨ d.n = 5 := by omega
      have b1 := fun q h0 h1 => hA 1 (by decide) (by decide) q h0 h1
      have b2 := fun q h0 h1 => hA 2 (by decide) (by decide) q h0 h1
      have z1 := fun b hb => z 1 (.inl rfl) b hb
      have z2 := fun b hb => z 2 (.inr rfl) b hb
      have key : ∀ a : Int, (∀ q, 0 ≤ q → q < d.n → cntN d.ns a q = 1) → (∀ b, d.n ≤ b → cntN d.ns a b = 0) → (cntN d.ns a 0 + cntN d.ns a 1 + cntN d.ns a 2 + cntN d.ns a 3 + cntN d.ns a 4 : Int) = d.n := by
        intro a h1 h2
        rcases e with e | e | e | e | e <;> rw [e] at h1 h2 ⊢
        · have := h1 0 (by decide) (by decide); have := h2 1 (by decide); have := h2 2 (by decide); have := h2 3 (by decide); have := h2 4 (by decide); omega
        · have := h1 0 (by decide) (by decide); have := h1 1 (by decide) (by decide); have := h2 2 (by decide); have := h2 3 (by decide); have := h2 4 (by decide); omega
        · have := h1 0 (by decide) (by decide); have := h1 1 (by decide) (by decide); have := h1 2 (by decide) (by decide); have := h2 3 (by decide); have := h2 4 (by decide); omega
        · have := h1 0 (by decide) (by decide); have := h1 1 (by decide) (by decide); have := h1 2 (by decide) (by decide); have := h1 3 (by decide) (by decide); have := h2 4 (by decide); omega
        · have := h1 0 (by decide) (by decide); have := h1 1 (by decide) (by decide); have := h1 2 (by decide) (by decide); have := h1 3 (by decide) (by decide); have := h1 4 (by decide) (by decide); omega
      have k1 := key 1 b1 z1
      have k2 := key 2 b2 z2
      omega
  · rintro ⟨hA, hE⟩
    have p1 := fun q h0 h1 => cnt_pos.1 (hA q h0 h1).1
    have p2 := fun q h0 h1 => cnt_pos.1 (hA q h0 h1).2
    have key : ∀ a : Int, (∀ q, 0 ≤ q → q < d.n → 0 < cntN d.ns a q) → d.n ≤ (cntN d.ns a 0 + cntN d.ns a 1 + cntN d.ns a 2 + cntN d.ns a 3 + cntN d.ns a 4 : Int) ∧ ((cntN d.ns a 0 + cntN d.ns a 1 + cntN d.ns a 2 + cntN d.ns a 3 + cntN d.ns a 4 : Int) = d.n → ∀ q, 0 ≤ q → q < d.n → cntN d.ns a q = 1) := by
      intro a h1
      have e : d.n = 1 ∨ d.n = 2 ∨ d.n = 3 ∨ d.n = 4 ∨ d.n = 5 := by omega
      have c0 := h1 0; have c1 := h1 1; have c2 := h1 2; have c3 := h1 3; have c4 := h1 4
      refine ⟨by omega, fun hs q h0 hq => ?_⟩
      have hq5 : q = 0 ∨ q = 1 ∨ q = 2 ∨ q = 3 ∨ q = 4 := by omega
      rcases hq5 with rfl | rfl | rfl | rfl | rfl <;> omega
    obtain ⟨l1, m1⟩ := key 1 p1
    obtain ⟨l2, m2⟩ := key 2 p2
    intro a ha hb q h0 h1
    have : a = 1 ∨ a = 2 := by omega
    rcases this with rfl | rfl
    · exact m1 (by omega) q h0 h1
    · exact m2 (by omega) q h0 h1
theorem good_same (d : Dia) : GoodS d ↔ GoodI d := by
  unfold GoodS GoodI
  have hmem : (∀ k, k < d.ns.length → zxNode d k) ↔ ((∀ x ∈ d.ns, isN d.n x) ∧ ∀ k, k < d.ns.length → degOk d k) := by
    unfold zxNode
    constructor
    · intro h
      refine ⟨fun x hx => ?_, fun k hk => (h k hk).2⟩
      obtain ⟨i, hi, rfl⟩ := List.mem_iff_getElem.1 hx
      have := (h i hi).1
      rwa [show d.ns.getD i ⟨0, 0⟩ = d.ns[i] from by simp [List.getD, hi]] at this
    · rintro ⟨h1, h2⟩ k hk
      refine ⟨h1 _ ?_, h2 k hk⟩
      rw [show d.ns.getD k ⟨0, 0⟩ = d.ns[k] from by simp [List.getD, hk]]
      exact List.getElem_mem _
  constructor
  · rintro ⟨h1, h2, h3, h4⟩
    obtain ⟨h5, h6⟩ := hmem.1 h3
    exact ⟨h1, h5, (ends_same h1.1 h5).1 h4, h2, h6⟩
  · rintro ⟨h1, h5, h4, h2, h6⟩
    exact ⟨h1, h2, hmem.2 ⟨h5, h6⟩, (ends_same h1.1 h5).2 h4⟩
end Go.Proofs.YtliophgfgmjhiaaGreatDoor
