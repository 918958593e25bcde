/- Gate: the laws' helpers: equal, marked, held. -/
import Derived.Test.YtliophgfgmjhiaaGreatDoorZ00M
import Derived.Below
import Derived.Laws.OwnMore
import Derived.Deep.AppendLies
import Derived.Deep.Draws
import Derived.Maps.AppendAt
import Derived.RegionTactic
import Derived.OwnWalk
import Derived.WalkSpells
import Derived.Deep.LoopGhost
import Derived.Shelf.Abstract
namespace Go.Proofs.YtliophgfgmjhiaaGreatDoor
set_option linter.unusedSimpArgs false
set_option linter.unusedVariables false
set_option linter.unnecessarySimpa false
set_option maxRecDepth 200000
open Go.ChangeShapes Go.WideShapes Go.ChangeAt Go.RowKit

end Go.Proofs.YtliophgfgmjhiaaGreatDoor
namespace Go.Proofs.YtliophgfgmjhiaaGreatDoor
set_option linter.unusedSimpArgs false
set_option linter.unusedVariables false
set_option linter.unnecessarySimpa false
set_option maxRecDepth 200000
open Go.ChangeShapes Go.WideShapes Go.ChangeAt Go.RowKit Go.Joins

theorem setGate_chain {xs : List E3} {ys : List Value} {k : Nat} (h : k < xs.length) (hl : ys.length = xs.length * 3) :
    (((((xs.take k).flatMap E3.cs ++ ys.drop (k * 3)).set (k * 3) (.int .i64 xs[k].a)).set (k * 3 + 1) (.int .i64 xs[k].b)).set (k * 3 + 2) (.int .i64 xs[k].c)) = (xs.take (k + 1)).flatMap E3.cs ++ ys.drop ((k + 1) * 3) := by
  have e : ((xs.take k).flatMap E3.cs).length = k * 3 := by rw [flat_len E3.len]; simp; omega
  obtain ⟨y0, y1, y2, zs, hz⟩ : ∃ y0 y1 y2 zs, ys.drop (k * 3) = y0 :: y1 :: y2 :: zs := by
    have hd : (ys.drop (k * 3)).length = ys.length - k * 3 := List.length_drop
    match hh : ys.drop (k * 3) with
    | y0 :: y1 :: y2 :: zs => exact ⟨y0, y1, y2, zs, rfl⟩
    | [] => rw [hh] at hd; simp at hd; omega
    | [y0] => rw [hh] at hd; simp at hd; omega
    | [y0, y1] => rw [hh] at hd; simp at hd; omega

  have hz2 : ys.drop ((k + 1) * 3) = zs := by
    rw [show (k + 1) * 3 = k * 3 + 3 from by omega, ← List.drop_drop, hz]; rfl
  rw [hz2, hz, List.take_succ_eq_append_getElem h, List.flatMap_append]
  rw [List.set_append_right _ _ (by rw [e]; omega), e, show k * 3 - k * 3 = 0 from by omega]
  rw [List.set_append_right _ _ (by rw [e]; omega), e, show k * 3 + 1 - k * 3 = 1 from by omega]
  rw [List.set_append_right _ _ (by rw [e]; omega), e, show k * 3 + 2 - k * 3 = 2 from by omega]
  simp [E3.cs]
end Go.Proofs.YtliophgfgmjhiaaGreatDoor
namespace Go.Proofs.YtliophgfgmjhiaaGreatDoor
set_option linter.unusedSimpArgs false
set_option linter.unusedVariables false
set_option linter.unnecessarySimpa false
set_option maxRecDepth 200000
open Go.ChangeShapes Go.WideShapes Go.ChangeAt Go.RowKit

def GateOk (n : Int) (g : E3) : Prop := (1 ≤ n ∧ n ≤ 5) ∧ (1 ≤ g.a ∧ g.a ≤ 12) ∧ ((g.a = 12 ∧ g.b = 0 ∧ g.c = 0) ∨ (9 ≤ g.a ∧ g.a ≤ 11 ∧ 0 ≤ g.b ∧ g.b ≤ n - 1 ∧ 0 ≤ g.c ∧ g.c ≤ n - 1 ∧ g.b ≠ g.c) ∨ (g.a < 9 ∧ 0 ≤ g.b ∧ g.b ≤ n - 1 ∧ g.c = 0))
instance (n : Int) (g : E3) : Decidable (GateOk n g) := by unfold GateOk; infer_instance
theorem gate_n {n : Int} {g : E3} (h : ¬ (1 ≤ n ∧ n ≤ 5)) : false = decide (GateOk n g) := by symm; rw [decide_eq_false_iff_not]; exact fun k => h k.1
end Go.Proofs.YtliophgfgmjhiaaGreatDoor
namespace Go.Proofs.YtliophgfgmjhiaaGreatDoor
set_option linter.unusedSimpArgs false
set_option linter.unusedVariables false
set_option linter.unnecessarySimpa false
set_option maxRecDepth 200000
open Go.RowKit

theorem block_of_add (a : Addr) (n : Nat) : (a.add n).block = a.block := by unfold Addr.add; split <;> rfl
theorem add_of_add (a : Addr) (i j : Nat) : (a.add i).add j = a.add (i + j) := by
  unfold Addr.add
  by_cases hi : i = 0 <;> by_cases hj : j = 0 <;> simp [hi, hj, Nat.add_assoc]

def Reads (w : World) (B size : Nat) (A : Option Addr) (n : Nat) (xs : List Value) : Prop :=
  xs.length = n * size ∧ (0 < n → ∃ ad, A = some ad ∧ ad.block < B ∧ ∀ j u, xs[j]? = some u → w.cell? (ad.add j) = some u)

section
variable {w w' : World} {B B' size n : Nat} {A : Option Addr} {xs : List Value}
theorem Reads.none_ : Reads w B size A 0 [] := ⟨by simp, fun h => absurd h (by omega)⟩
theorem Reads.at_ {k : Nat} (h : Reads w B 1 A n xs) (hk : k < n) : ∃ ad u, A = some ad ∧ ad.block < B ∧ xs[k]? = some u ∧ w.cell? (ad.add k) = some u := by
  obtain ⟨ad, e, hb, hc⟩ := h.2 (by omega)
  have hl : k < xs.length := by have := h.1; omega
  exact ⟨ad, xs[k], e, hb, List.getElem?_eq_getElem hl, hc k _ (List.getElem?_eq_getElem hl)⟩
theorem Reads.keep (h : Reads w B size A n xs) (hk : ∀ p : Addr, p.block < B → w'.cell? p = w.cell? p) : Reads w' B size A n xs :=
  ⟨h.1, fun hn => by
    obtain ⟨ad, e, hb, hc⟩ := h.2 hn
    exact ⟨ad, e, hb, fun j u hu => (hk _ (by rw [block_of_add]; exact hb)).trans (hc j u hu)⟩⟩
theorem Reads.more (h : Reads w B size A n xs) (hB : B ≤ B') : Reads w B' size A n xs :=
  ⟨h.1, fun hn => by
    obtain ⟨ad, e, hb, hc⟩ := h.2 hn
    exact ⟨ad, e, by omega, hc⟩⟩
theorem Reads.below (h : Reads w B size A n xs) (hb : Below B w w') : Reads w' B size A n xs := h.keep fun _ hp => hb.cell hp
theorem Reads.drew (h : Reads w B size A n xs) : Reads w.drew B size A n xs := h
theorem Reads.drewN (h : Reads w B size A n xs) (k : Nat) : Reads (w.drewN k) B size A n xs := h
theorem Reads.alloc (h : Reads w B size A n xs) (hB : B ≤ w.heap.size) (o : Obj) : Reads (w.alloc o) B size A n xs := h.keep fun p hp => World.cell?_alloc_lt w o p (by omega)
theorem Reads.setCell (h : Reads w B size A n xs) {p : Addr} (hB : B ≤ p.block) (u : Value) : Reads (w.setCell p u) B size A n xs :=
  h.keep fun q hq => World.cell?_setCell_other w p q u (fun e => by subst e; omega)
theorem Reads.grown (h : Reads w B size A n xs) {row : Option Nat} (hg : w.grownBy w' row) (hB : B ≤ w.heap.size) (hr : ∀ g, row = some g → B ≤ g) : Reads w' B size A n xs :=
  h.keep fun p hp => World.cell?_of_block (hg.block p.block (by omega) (fun e => by have := hr _ e.symm; omega))
theorem Reads.cut (h : Reads w B size A n xs) {k cap : Nat} (hk : k ≤ n) (hc : n ≤ cap) :
    Reads w B size (if cap = k then A else A.map (·.add (k * size))) (n - k) (xs.drop (k * size)) := by
  refine ⟨by rw [List.length_drop, h.1, Nat.sub_mul], fun hn => ?_⟩
  obtain ⟨ad, rfl, hb, hcell⟩ := h.2 (by omega)
  rw [if_neg (by omega)]
  refine ⟨ad.add (k * size), rfl, by rw [block_of_add]; exact hb, fun j u hu => ?_⟩
  rw [add_of_add]
  exact hcell _ u (by rw [← hu, List.getElem?_drop])
theorem Reads.of_own {base : Nat} {e : TypeId} {c : Nat} (h : w.ownsRow base e size (.slice A n c) n xs) : Reads w w.heap.size size A n xs := by
  refine ⟨h.1, fun hn => ?_⟩
  obtain ⟨g, cap, hv, _, hlt⟩ := h.form hn
  have hA : A = some ⟨g, 0, none⟩ := by injection hv
  subst hA
  exact ⟨_, rfl, hlt, h.cells (g := g) rfl⟩
end

section
variable {P : Program} (w : World)

theorem run_append_of_nil (base : Nat) (t ty e : TypeId) (i : TypeInfo) (size : Nat) (ht : P.underlying t = some (.slice e)) (hi : P.info? e = some i)
    (v : Value) (n : Nat) (xs : List Value) (hown : w.ownsRow base e size v n xs) (c : Nat) : (Builtin.append_ #[t, t] ty #[v, .slice none 0 c]).run P w = .ok v w := by
  rcases hown.2 with ⟨rfl, rfl⟩ | ⟨g, cap, cur, rfl, _, _, hnc, _⟩
  · simp [Builtin.append_, run_underlying ht, sizeOf, typeInfo, hi, Builtin.lenOf, Builtin.firstCells]
  · simp [Builtin.append_, run_underlying ht, sizeOf, typeInfo, hi, Builtin.lenOf, Builtin.firstCells, hnc, storeCells]

theorem run_append_any (base : Nat) (t ty e : TypeId) (i : TypeInfo) (z : Value) (size bytes : Nat) (ht : P.underlying t = some (.slice e)) (hi : P.info? e = some i) (hz : i.zero = some z)
    (hsize : i.size = size) (hby : i.bytes = bytes) (hzs : z.cells.size = size) (hsz : 0 < size)
    (v : Value) (n : Nat) (xs : List Value) (hown : w.ownsRow base e size v n xs)
    (B : Nat) (A : Option Addr) (m c : Nat) (news : List Value) (hr : Reads w B size A m news) (h1 : ∀ u ∈ news, u.oneCell' = true)
    (h63 : n + m ≤ maxLen) (hbytes : (n + m) * bytes ≤ 140737488355328) (hbase : base ≤ w.heap.size) :
    ∃ v' w', (Builtin.append_ #[t, t] ty #[v, .slice A m c]).run P w = .ok v' w' ∧ w'.ownsRow base e size v' (n + m) (xs ++ news) ∧ w.grownBy w' v.ownBlock ∧
      (v'.ownBlock = v.ownBlock ∨ v'.ownBlock = some w.heap.size) := by
  rcases A with _ | ad
  · have hm : m = 0 := by
      rcases Nat.eq_zero_or_pos m with h0 | h0
      · exact h0
      · obtain ⟨ad, h, _⟩ := hr.2 h0
        cases h
    subst hm
    have hn : news = [] := List.eq_nil_of_length_eq_zero (by simpa using hr.1)
    subst hn
    exact ⟨v, w, run_append_of_nil w base t ty e i size ht hi v n xs hown c, by simpa using hown, World.grownBy.refl w _, .inl rfl⟩
  · have hcells : ∀ j u, news[j]? = some u → w.cell? (ad.add j) = some u := by
      intro j u hu
      rcases Nat.eq_zero_or_pos m with h0 | h0
      · subst h0
        have hn : news = [] := List.eq_nil_of_length_eq_zero (by simpa using hr.1)
        subst hn
        simp at hu
      · obtain ⟨ad', h, _, hc⟩ := hr.2 h0
        injection h with h
        subst h
        exact hc j u hu
    obtain ⟨v', w', hrun, h2, h3, _, h5⟩ := run_append_own_at (P := P) w base t ty e i z size bytes ht hi hz hsize hby hzs hsz v n xs hown ad m c news hr.1 hcells h1 h63 hbytes hbase
    exact ⟨v', w', hrun, h2, h3, h5⟩

theorem wp_append_any {o : Oper} {a : Act} {K : Act → World → Prop} {Q : Exit → Act → World → Prop} (s x : Operand) (t : TypeId)
    (ho : o.op = .call { callee := .builtin .append, args := #[s, x], argTypes := #[t, t] })
    (base : Nat) (e : TypeId) (i : TypeInfo) (z : Value) (size bytes : Nat) (ht : P.underlying t = some (.slice e)) (hi : P.info? e = some i) (hz : i.zero = some z)
    (hsize : i.size = size) (hby : i.bytes = bytes) (hzs : z.cells.size = size) (hsz : 0 < size)
    (v : Value) (n : Nat) (xs : List Value) (hs : a.eval s = v) (hown : w.ownsRow base e size v n xs)
    (B : Nat) (A : Option Addr) (m c : Nat) (news : List Value) (hx : a.eval x = .slice A m c) (hr : Reads w B size A m news) (h1 : ∀ u ∈ news, u.oneCell' = true)
    (h63 : n + m ≤ maxLen) (hbytes : (n + m) * bytes ≤ 140737488355328) (hbase : base ≤ w.heap.size)
    (h : ∀ v' w', w'.ownsRow base e size v' (n + m) (xs ++ news) → w.grownBy w' v.ownBlock → (v'.ownBlock = v.ownBlock ∨ v'.ownBlock = some w.heap.size) → K (a.put o.dst v') w') : o.wp P a w K Q := by
  obtain ⟨v', w', hrun, h2, h3, h4⟩ := run_append_any (P := P) w base t o.type e i z size bytes ht hi hz hsize hby hzs hsz v n xs hown B A m c news hr h1 h63 hbytes hbase
  unfold Oper.wp execOp
  simp only [ho, resolve, invoke, builtin, Sem.run_bind, Sem.run_pure, Result.andThen_ok, List.map_toArray, List.map_cons, List.map_nil, hs, hx, hrun]
  exact h v' w' h2 h3 h4

theorem wpList_append_any {ops : Array Oper} {rest : List Oper} {o : Oper} {a : Act} {Q : Exit → Act → World → Prop} (hgd : o.guard = none) (s x : Operand) (t : TypeId)
    (ho : o.op = .call { callee := .builtin .append, args := #[s, x], argTypes := #[t, t] })
    (base : Nat) (e : TypeId) (i : TypeInfo) (z : Value) (size bytes : Nat) (ht : P.underlying t = some (.slice e)) (hi : P.info? e = some i) (hz : i.zero = some z)
    (hsize : i.size = size) (hby : i.bytes = bytes) (hzs : z.cells.size = size) (hsz : 0 < size)
    (v : Value) (n : Nat) (xs : List Value) (hs : a.eval s = v) (hown : w.ownsRow base e size v n xs)
    (B : Nat) (A : Option Addr) (m c : Nat) (news : List Value) (hx : a.eval x = .slice A m c) (hr : Reads w B size A m news) (h1 : ∀ u ∈ news, u.oneCell' = true)
    (h63 : n + m ≤ maxLen) (hbytes : (n + m) * bytes ≤ 140737488355328) (hbase : base ≤ w.heap.size)
    (h : ∀ v' w', w'.ownsRow base e size v' (n + m) (xs ++ news) → w.grownBy w' v.ownBlock → (v'.ownBlock = v.ownBlock ∨ v'.ownBlock = some w.heap.size) → wpList P ops Q rest (a.put o.dst v') w') : wpList P ops Q (o :: rest) a w :=
  wpList_plain hgd fun _ hK => wp_append_any w s x t ho base e i z size bytes ht hi hz hsize hby hzs hsz v n xs hs hown B A m c news hx hr h1 h63 hbytes hbase fun v' w' h2 h3 h4 => hK _ _ (h v' w' h2 h3 h4)

theorem step_append_any {ops : Array Oper} {o : Oper} {a : Act} {K : Act → World → Prop} {Q : Exit → Act → World → Prop} {E : Prop} (hgd : o.guard = none) (s x : Operand) (t : TypeId)
    (ho : o.op = .call { callee := .builtin .append, args := #[s, x], argTypes := #[t, t] })
    (base : Nat) (e : TypeId) (i : TypeInfo) (z : Value) (size bytes : Nat) (ht : P.underlying t = some (.slice e)) (hi : P.info? e = some i) (hz : i.zero = some z)
    (hsize : i.size = size) (hby : i.bytes = bytes) (hzs : z.cells.size = size) (hsz : 0 < size)
    (v : Value) (n : Nat) (xs : List Value) (hs : a.eval s = v) (hown : w.ownsRow base e size v n xs)
    (B : Nat) (A : Option Addr) (m c : Nat) (news : List Value) (hx : a.eval x = .slice A m c) (hr : Reads w B size A m news) (h1 : ∀ u ∈ news, u.oneCell' = true)
    (h63 : n + m ≤ maxLen) (hbytes : (n + m) * bytes ≤ 140737488355328) (hbase : base ≤ w.heap.size)
    (h : ∀ v' w', w'.ownsRow base e size v' (n + m) (xs ++ news) → w.grownBy w' v.ownBlock → (v'.ownBlock = v.ownBlock ∨ v'.ownBlock = some w.heap.size) → K (a.put o.dst v') w') :
    if Region.wanted o (yielded ops a.tmps) = true then Oper.wp P o a w K Q else E := by
  have hw : Region.wanted o (yielded ops a.tmps) = true := by simp [Region.wanted, hgd]
  rw [if_pos hw]
  exact wp_append_any w s x t ho base e i z size bytes ht hi hz hsize hby hzs hsz v n xs hs hown B A m c news hx hr h1 h63 hbytes hbase h
end

theorem Reads.of_rd {w : World} {sz n c : Nat} {A : Option Addr} {xs : List Value} (h : Rd w (.slice A n c) n sz xs) : Reads w w.heap.size sz A n xs := by
  refine ⟨h.1, fun hn => ?_⟩
  rcases h.2 with ⟨_, h0⟩ | ⟨b, off, cap, e, hb, _, _, hc⟩
  · omega
  · injection e with e1 e2 e3
    subst e1
    exact ⟨⟨b, off, none⟩, rfl, hb, fun j u hu => by rw [Addr.add_lit]; exact hc j u hu⟩
theorem ints_one {zs : List Int} : ∀ u ∈ zs.map (Value.int .i64), u.oneCell' = true := by
  intro u hu
  obtain ⟨z, _, rfl⟩ := List.mem_map.1 hu
  rfl
theorem flat_one {α : Type} {f : α → List Value} (hf : ∀ x, ∀ u ∈ f x, u.oneCell' = true) (xs : List α) : ∀ u ∈ xs.flatMap f, u.oneCell' = true := by
  intro u hu
  obtain ⟨x, _, hx⟩ := List.mem_flatMap.1 hu
  exact hf x u hx
theorem E2.one (x : E2) : ∀ u ∈ x.cs, u.oneCell' = true := by intro u hu; simp [E2.cs] at hu; rcases hu with rfl | rfl <;> rfl
theorem E3.one (x : E3) : ∀ u ∈ x.cs, u.oneCell' = true := by intro u hu; simp [E3.cs] at hu; rcases hu with rfl | rfl | rfl <;> rfl
theorem EW.one (x : EW) : ∀ u ∈ x.cs, u.oneCell' = true := by intro u hu; simp [EW.cs] at hu; rcases hu with rfl | rfl | rfl <;> rfl
end Go.Proofs.YtliophgfgmjhiaaGreatDoor
namespace Go.Proofs.YtliophgfgmjhiaaGreatDoor
set_option linter.unusedSimpArgs false
set_option linter.unusedVariables false
set_option linter.unnecessarySimpa false
set_option maxRecDepth 200000
open Go.ChangeShapes Go.WideShapes Go.ChangeAt Go.RowKit

/-- A function value, g bound to lb, that answers p: it may lay blocks of its own. -/
def PredB {α : Type} (g : Nat) (lb : Array Value) (enc : α → Value) (p : α → Bool) (zs : List α) (w : World) : Prop :=
  ∀ (W : World) (x : α), x ∈ zs → Below w.heap.size w W → Calls Tryz.prog g (#[enc x] ++ lb) W fun e w' => e = .returned (.bool (p x)) ∧ Below W.heap.size W w'
/-- The first place at which p holds. -/
def idxI {α : Type} (p : α → Bool) (zs : List α) : Int := match zs.findIdx? p with | some i => i | none => -1
theorem idx_hit {α : Type} {p : α → Bool} {zs : List α} {k : Nat} (hk : k < zs.length) (h0 : Hid (∀ j (h : j < zs.length), j < k → p zs[j] = false)) (h1 : p zs[k] = true) : (k : Int) = idxI p zs := by
  have e : zs.findIdx? p = some k := by
    rw [List.findIdx?_eq_some_iff_getElem]
    exact ⟨hk, h1, fun j hj => by simp [h0.out j (by omega) hj]⟩
  simp [idxI, e]
theorem idx_miss {α : Type} {p : α → Bool} {zs : List α} {k : Nat} (hk : zs.length ≤ k) (h0 : Hid (∀ j (h : j < zs.length), j < k → p zs[j] = false)) : (-1 : Int) = idxI p zs := by
  have e : zs.findIdx? p = none := by
    rw [List.findIdx?_eq_none_iff]
    intro x hx
    obtain ⟨j, hj, rfl⟩ := List.mem_iff_getElem.1 hx
    exact h0.out j hj (by omega)
  simp [idxI, e]
theorem idx_next {α : Type} {p : α → Bool} {zs : List α} {k : Nat} (hk : k < zs.length) (h0 : Hid (∀ j (h : j < zs.length), j < k → p zs[j] = false)) (h1 : p zs[k] = false) : Hid (∀ j (h : j < zs.length), j < k + 1 → p zs[j] = false) := by
  show ∀ j (h : j < zs.length), j < k + 1 → p zs[j] = false
  intro j h hj
  by_cases e : j = k
  · subst e; exact h1
  · exact h0.out j h (by omega)
theorem idxI_ge {α : Type} (p : α → Bool) (zs : List α) : (0 ≤ idxI p zs) ↔ zs.any p = true := by
  unfold idxI
  cases h : zs.findIdx? p with
  | none =>
    rw [List.findIdx?_eq_none_iff] at h
    simp only [List.any_eq_true]
    constructor
    · intro h0; omega
    · rintro ⟨x, hx, hp⟩; rw [h x hx] at hp; cases hp
  | some i =>
    rw [List.findIdx?_eq_some_iff_getElem] at h
    obtain ⟨hi, h1, _⟩ := h
    simp only [List.any_eq_true]
    exact ⟨fun _ => ⟨_, List.getElem_mem hi, h1⟩, fun _ => by omega⟩
theorem idxI_cases {α : Type} (p : α → Bool) (zs : List α) : (idxI p zs = -1 ∧ ∀ x ∈ zs, p x = false) ∨ ∃ j : Nat, idxI p zs = (j : Int) ∧ ∃ h : j < zs.length, p zs[j] = true ∧ ∀ t (h : t < zs.length), t < j → p zs[t] = false := by
  unfold idxI
  cases h : zs.findIdx? p with
  | none => rw [List.findIdx?_eq_none_iff] at h; exact .inl ⟨rfl, fun x hx => by simpa using h x hx⟩
  | some i =>
    rw [List.findIdx?_eq_some_iff_getElem] at h
    obtain ⟨hi, h1, h2⟩ := h
    exact .inr ⟨i, rfl, hi, h1, fun t ht htj => by simpa using h2 t htj⟩
end Go.Proofs.YtliophgfgmjhiaaGreatDoor
namespace Go.Proofs.YtliophgfgmjhiaaGreatDoor
set_option linter.unusedSimpArgs false
set_option linter.unusedVariables false
set_option linter.unnecessarySimpa false
set_option maxRecDepth 200000
open Go.ChangeShapes Go.WideShapes Go.ChangeAt Go.RowKit

def encGate (x : E3) : Value := .agg #[.int .i64 x.a, .int .i64 x.b, .int .i64 x.c]
end Go.Proofs.YtliophgfgmjhiaaGreatDoor
namespace Go.Proofs.YtliophgfgmjhiaaGreatDoor
set_option linter.unusedSimpArgs false
set_option linter.unusedVariables false
set_option linter.unnecessarySimpa false
set_option maxRecDepth 200000
open Go.ChangeShapes Go.WideShapes Go.ChangeAt Go.RowKit

end Go.Proofs.YtliophgfgmjhiaaGreatDoor
namespace Go.Proofs.YtliophgfgmjhiaaGreatDoor
set_option linter.unusedSimpArgs false
set_option linter.unusedVariables false
set_option linter.unnecessarySimpa false
set_option maxRecDepth 200000
open Go.ChangeShapes Go.WideShapes Go.ChangeAt Go.RowKit

def CircOk (d : Circ) : Prop := (1 ≤ d.n ∧ d.n ≤ 5) ∧ d.gs.length ≤ 400 ∧ ∀ g ∈ d.gs, GateOk d.n g
instance (d : Circ) : Decidable (CircOk d) := by unfold CircOk; infer_instance
def circB (d : Circ) : Bool := decide (CircOk d)
theorem circB_n {d : Circ} (h : ¬ (1 ≤ d.n ∧ d.n ≤ 5)) : circB d = false := decide_eq_false fun k => h k.1
theorem circB_l {d : Circ} (h : ¬ d.gs.length ≤ 400) : circB d = false := decide_eq_false fun k => h k.2.1
theorem circB_g {d : Circ} (h1 : 1 ≤ d.n ∧ d.n ≤ 5) (h2 : d.gs.length ≤ 400) : circB d = !d.gs.any fun g => !decide (GateOk d.n g) := by
  cases ha : d.gs.any (fun g => !decide (GateOk d.n g)) with
  | false =>
    rw [List.any_eq_false] at ha
    exact decide_eq_true ⟨h1, h2, fun g hg => by simpa using ha g hg⟩
  | true =>
    rw [List.any_eq_true] at ha
    obtain ⟨g, hg, h⟩ := ha
    exact decide_eq_false fun hh => by simp [hh.2.2 g hg] at h
theorem circ_yes {d : Circ} {k : Nat} (h1 : 1 ≤ d.n ∧ d.n ≤ 5) (h2 : d.gs.length ≤ 400) (hk : d.gs.length ≤ k) (h : Hid (∀ j (hj : j < d.gs.length), j < k → GateOk d.n d.gs[j])) : true = circB d := by
  symm
  refine decide_eq_true ⟨h1, h2, fun g hg => ?_⟩
  obtain ⟨j, hj, rfl⟩ := List.mem_iff_getElem.1 hg
  exact h.out j hj (by omega)
theorem circ_no {d : Circ} {k : Nat} (hk : k < d.gs.length) (h : ¬ GateOk d.n d.gs[k]) : false = circB d := by
  symm
  exact decide_eq_false fun hh => h (hh.2.2 _ (List.getElem_mem hk))
end Go.Proofs.YtliophgfgmjhiaaGreatDoor
