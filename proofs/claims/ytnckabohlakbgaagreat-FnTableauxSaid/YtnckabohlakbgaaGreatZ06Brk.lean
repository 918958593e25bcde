/- A region that draws its order, walked under a condition S on the world that its LAST operations (those of a list, mostly stores) may break: an operation may be taken first where it yields its value under S and every breaking operation waits for it. -/
import Derived.Test.YtnckabohlakbgaaGreatZ00Base
import Derived.Deep.RegionHeldLaw
namespace Go.Proofs.YtnckabohlakbgaaGreat
set_option linter.unusedSimpArgs false
set_option linter.unusedVariables false
set_option linter.unnecessarySimpa false
set_option maxRecDepth 200000
open Go

section
variable {P : Program} {ops : Array Oper} {Q : Exit → Act → World → Prop} {md : Region.Mode} {S : World → Prop} {brk : List Nat}

/-- Whatever order is picked from here on; behind each operation that is not of the list, S holds. -/
def AnyB (P : Program) (md : Region.Mode) (ops : Array Oper) (Q : Exit → Act → World → Prop) (S : World → Prop) (brk : List Nat) : Nat → Array Bool → Act → World → Prop
  | 0, l, a, w => Region.ready md ops l = [] ∧ Q .normal a w
  | n + 1, l, a, w => (Region.ready md ops l = [] → Q .normal a w) ∧ ∀ i ∈ Region.ready md ops l, wpOp P ops Q i (fun a' w' => (brk.contains i = false → S w → S w') ∧ AnyB P md ops Q S brk n (l.setIfInBounds i true) a' w') a w

theorem AnyB.plain : ∀ (n : Nat) (l : Array Bool) (a : Act) (w : World), AnyB P md ops Q S brk n l a w → wpAny P md ops Q n l a w
  | 0, _, _, _, h => h
  | n + 1, _, _, _, h => ⟨h.1, fun i hi => wpOp_mono (fun a' w' h' => AnyB.plain n _ a' w' h'.2) (h.2 i hi)⟩

/-- Operation j waits for i, by way of others too. -/
def waits (md : Region.Mode) (ops : Array Oper) (i : Nat) : Nat → Nat → Bool
  | 0, _ => false
  | n + 1, j => match ops[j]? with
    | some o => o.after.any fun e => Region.binds md e && (e.on == i || waits md ops i n e.on)
    | none => false
/-- What has come up, comes with all it waits for. -/
def Closed (md : Region.Mode) (ops : Array Oper) (l : Array Bool) : Prop :=
  ∀ (m : Nat) (o : Oper), ops[m]? = some o → l.getD m false = true → ∀ e ∈ o.after, Region.binds md e = true → l.getD e.on false = true
def closedB (md : Region.Mode) (ops : Array Oper) (l : Array Bool) : Bool :=
  (List.range ops.size).all fun m => match ops[m]? with
    | some o => !l.getD m false || o.after.all fun e => !Region.binds md e || l.getD e.on false
    | none => true
theorem closed_of {l : Array Bool} (h : closedB md ops l = true) : Closed md ops l := by
  intro m o ho hl e he hb
  have h1 := List.all_eq_true.1 h m (List.mem_range.2 (Array.getElem?_eq_some_iff.1 ho).1)
  simp only [ho, hl, Bool.not_true, Bool.false_or] at h1
  have h2 := Array.all_eq_true_iff_forall_mem.1 h1 e he
  simpa [hb] using h2
theorem Closed.next {l : Array Bool} {j : Nat} (h : Closed md ops l) (hj : j ∈ Region.ready md ops l) : Closed md ops (l.setIfInBounds j true) := by
  intro m o ho hl e he hb
  by_cases hm : j = m
  · subst hm
    obtain ⟨_, o', ho', hall⟩ := mem_ready.1 hj
    rw [ho] at ho'; injection ho' with ho'; subst ho'
    exact getD_set_true (hall e he hb)
  · rw [getD_set_ne false hm] at hl
    exact getD_set_true (h m o ho hl e he hb)
theorem waits_open {l : Array Bool} {i : Nat} (hc : Closed md ops l) (hi : l.getD i false = false) : ∀ (n j : Nat), waits md ops i n j = true → ∃ o, ops[j]? = some o ∧ ∃ e ∈ o.after, Region.binds md e = true ∧ l.getD e.on false = false
  | 0, j, h => by cases h
  | n + 1, j, h => by
    unfold waits at h
    cases ho : ops[j]? with
    | none => rw [ho] at h; cases h
    | some o =>
      rw [ho] at h
      obtain ⟨k, hk, h1⟩ := Array.any_eq_true.1 h
      obtain ⟨e, he, hee⟩ : ∃ e, e ∈ o.after ∧ o.after[k] = e := ⟨_, Array.getElem_mem hk, rfl⟩
      rw [hee] at h1
      simp only [Bool.and_eq_true, Bool.or_eq_true, beq_iff_eq] at h1
      obtain ⟨hb, h2⟩ := h1
      refine ⟨o, rfl, e, he, hb, ?_⟩
      rcases h2 with h2 | h2
      · rw [h2]; exact hi
      · obtain ⟨o2, ho2, e2, he2, hb2, hf⟩ := waits_open hc hi n e.on h2
        cases hx : l.getD e.on false with
        | false => rfl
        | true => have := hc e.on o2 ho2 hx e2 he2 hb2; rw [hf] at this; cases this
theorem late {l : Array Bool} {i j n : Nat} (hc : Closed md ops l) (hi : l.getD i false = false) (h : waits md ops i n j = true) : ¬ j ∈ Region.ready md ops l := by
  intro hj
  obtain ⟨o, ho, e, he, hb, hf⟩ := waits_open hc hi n j h
  obtain ⟨_, o', ho', hall⟩ := mem_ready.1 hj
  rw [ho] at ho'; injection ho' with ho'; subst ho'
  have := hall e he hb
  rw [hf] at this; cases this
theorem unlisted {l : Array Bool} {i : Nat} (h : i ∈ Region.ready md ops l) : l.getD i false = false := by
  have h0 := (mem_ready.1 h).1
  rcases Nat.lt_or_ge i l.size with h' | h'
  · simp [h'] at h0 ⊢; exact h0
  · simp [Array.getElem?_eq_none h'] at h0

theorem AnyB.first {i : Nat} {oi : Oper} {v : Value} (hi : ops[i]? = some oi) (hsel : ∀ (j : Nat) (o : Oper) cs b, ops[j]? = some o → o.op ≠ .select cs b)
    (hQ : ∀ c a w, Q (.panic c) (a.put oi.dst v) w → Q (.panic c) a w) {m : Nat} (hbrk : ∀ j, brk.contains j = true → waits md ops i m j = true) :
    ∀ (n : Nat) (l : Array Bool) (a : Act) (w : World), Closed md ops l →
      (∀ j oj, ops[j]? = some oj → j ≠ i → l.getD j true = false → (∀ e ∈ oj.after, Region.binds md e = true → e.on ≠ i) → oi.apart ops oj = true) →
      i ∈ Region.ready md ops l → YieldsIf P ops S oi v a → S w →
      AnyB P md ops Q S brk n (l.setIfInBounds i true) (a.put oi.dst v) w → AnyB P md ops Q S brk (n + 1) l a w := by
  intro n
  induction n with
  | zero =>
    intro l a w _ _ hr hy hS H
    refine ⟨fun h => (by rw [h] at hr; cases hr), fun j hj => ?_⟩
    by_cases hji : j = i
    · subst hji; exact hy.wpOp hi hS ⟨fun _ h => h, H⟩
    · have h0 := ready_mono hj hji
      rw [H.1] at h0
      cases h0
  | succ n ih =>
    intro l a w hcl hfree hr hy hS H
    refine ⟨fun h => (by rw [h] at hr; cases hr), fun j hj => ?_⟩
    by_cases hji : j = i
    · subst hji; exact hy.wpOp hi hS ⟨fun _ h => h, H⟩
    · have hnb : brk.contains j = false := by
        cases hb : brk.contains j with
        | false => rfl
        | true => exact absurd hj (late hcl (unlisted hr) (hbrk j hb))
      obtain ⟨hjun, oj, hoj, hall⟩ := mem_ready.1 hj
      have hnot : ∀ e ∈ oj.after, Region.binds md e = true → e.on ≠ i := fun e he hb heq => by
        have h1 := hall e he hb
        rw [heq, unlisted hr] at h1; cases h1
      have h2 := wpOp_putIf hoj (hfree j oj hoj hji hjun hnot) (fun cs b => hsel i oi cs b hi) (fun cs b => hsel j oj cs b hoj) hQ hy (H.2 j (ready_mono hj hji))
      have hfree' : ∀ k ok, ops[k]? = some ok → k ≠ i → (l.setIfInBounds j true).getD k true = false → (∀ e ∈ ok.after, Region.binds md e = true → e.on ≠ i) → oi.apart ops ok = true := fun k ok hk hki hun hno => by
        refine hfree k ok hk hki ?_ hno
        by_cases hjk : j = k
        · subst hjk; exact hjun
        · rw [getD_set_ne true hjk] at hun; exact hun
      refine wpOp_mono (fun a' w' h3 => ⟨h3.2.1, ih (l.setIfInBounds j true) a' w' (hcl.next hj) hfree' (ready_mono hr (Ne.symm hji)) h3.1 (h3.2.1 hnb hS) ?_⟩) h2
      rw [Array.setIfInBounds_comm _ _ hji]
      exact h3.2.2
theorem AnyB.firstQ {i : Nat} {oi : Oper} {v : Value} (hi : ops[i]? = some oi) (hsel : ∀ (j : Nat) (o : Oper) cs b, ops[j]? = some o → o.op ≠ .select cs b)
    (hQ : ∀ c a w, Q (.panic c) (a.put oi.dst v) w → Q (.panic c) a w) :
    ∀ (n : Nat) (l : Array Bool) (a : Act) (w : World),
      (∀ j oj, ops[j]? = some oj → j ≠ i → l.getD j true = false → (∀ e ∈ oj.after, Region.binds md e = true → e.on ≠ i) → oi.apart ops oj = true) →
      i ∈ Region.ready md ops l → YieldsIf P ops (fun _ => True) oi v a →
      AnyB P md ops Q S brk n (l.setIfInBounds i true) (a.put oi.dst v) w → AnyB P md ops Q S brk (n + 1) l a w := by
  intro n
  induction n with
  | zero =>
    intro l a w _ hr hy H
    refine ⟨fun h => (by rw [h] at hr; cases hr), fun j hj => ?_⟩
    by_cases hji : j = i
    · subst hji; exact hy.wpOp hi trivial ⟨fun _ h => h, H⟩
    · have h0 := ready_mono hj hji
      rw [H.1] at h0
      cases h0
  | succ n ih =>
    intro l a w hfree hr hy H
    refine ⟨fun h => (by rw [h] at hr; cases hr), fun j hj => ?_⟩
    by_cases hji : j = i
    · subst hji; exact hy.wpOp hi trivial ⟨fun _ h => h, H⟩
    · obtain ⟨hjun, oj, hoj, hall⟩ := mem_ready.1 hj
      have hnot : ∀ e ∈ oj.after, Region.binds md e = true → e.on ≠ i := fun e he hb heq => by
        have h1 := hall e he hb
        rw [heq, unlisted hr] at h1; cases h1
      have h2 := wpOp_putIf hoj (hfree j oj hoj hji hjun hnot) (fun cs b => hsel i oi cs b hi) (fun cs b => hsel j oj cs b hoj) hQ hy (H.2 j (ready_mono hj hji))
      have hfree' : ∀ k ok, ops[k]? = some ok → k ≠ i → (l.setIfInBounds j true).getD k true = false → (∀ e ∈ ok.after, Region.binds md e = true → e.on ≠ i) → oi.apart ops ok = true := fun k ok hk hki hun hno => by
        refine hfree k ok hk hki ?_ hno
        by_cases hjk : j = k
        · subst hjk; exact hjun
        · rw [getD_set_ne true hjk] at hun; exact hun
      refine wpOp_mono (fun a' w' h3 => ⟨h3.2.1, ih (l.setIfInBounds j true) a' w' hfree' (ready_mono hr (Ne.symm hji)) h3.1 ?_⟩) h2
      rw [Array.setIfInBounds_comm _ _ hji]
      exact h3.2.2
theorem AnyB.takeQ {i : Nat} {oi : Oper} {v : Value} {n : Nat} {l : Array Bool} {a : Act} {w : World} (hi : ops[i]? = some oi)
    (hs : Region.noSelect ops = true) (hf : Region.free md ops l i = true) (hr : (Region.ready md ops l).contains i = true)
    (hQ : ∀ c a w, Q (.panic c) (a.put oi.dst v) w → Q (.panic c) a w) (hy : YieldsIf P ops (fun _ => True) oi v a)
    (h : AnyB P md ops Q S brk n (l.setIfInBounds i true) (a.put oi.dst v) w) : AnyB P md ops Q S brk (n + 1) l a w :=
  AnyB.firstQ hi (Region.noSelect_spec hs) hQ n l a w (Region.free_spec hi hf) (by simpa using hr) hy h
/-- The breaking operations all wait for i. -/
def allWait (md : Region.Mode) (ops : Array Oper) (brk : List Nat) (i : Nat) : Bool := brk.all fun j => waits md ops i ops.size j
theorem AnyB.take {i : Nat} {oi : Oper} {v : Value} {n : Nat} {l : Array Bool} {a : Act} {w : World} (hi : ops[i]? = some oi)
    (hs : Region.noSelect ops = true) (hf : Region.free md ops l i = true) (hr : (Region.ready md ops l).contains i = true) (hc : closedB md ops l = true) (hb : allWait md ops brk i = true)
    (hQ : ∀ c a w, Q (.panic c) (a.put oi.dst v) w → Q (.panic c) a w) (hy : YieldsIf P ops S oi v a) (hS : S w)
    (h : AnyB P md ops Q S brk n (l.setIfInBounds i true) (a.put oi.dst v) w) : AnyB P md ops Q S brk (n + 1) l a w := by
  simp only [allWait, List.all_eq_true] at hb
  exact AnyB.first hi (Region.noSelect_spec hs) hQ (fun j hj => hb j (by simpa using hj)) n l a w (closed_of hc) (Region.free_spec hi hf) (by simpa using hr) hy hS h
theorem AnyB.none {l : Array Bool} {a : Act} {w : World} (hr : Region.ready md ops l = []) (h : Q .normal a w) : ∀ n, AnyB P md ops Q S brk n l a w
  | 0 => ⟨hr, h⟩
  | _ + 1 => ⟨fun _ => h, by rw [hr]; simp⟩
def EachB (P : Program) (md : Region.Mode) (ops : Array Oper) (Q : Exit → Act → World → Prop) (S : World → Prop) (brk : List Nat) (n : Nat) (l : Array Bool) (a : Act) (w : World) (rs : List Nat) : Prop :=
  ∀ i ∈ rs, wpOp P ops Q i (fun a' w' => (brk.contains i = false → S w → S w') ∧ AnyB P md ops Q S brk n (l.setIfInBounds i true) a' w') a w
theorem EachB.nil {n : Nat} {l : Array Bool} {a : Act} {w : World} : EachB P md ops Q S brk n l a w [] := fun _ h => by cases h
theorem EachB.cons {n : Nat} {l : Array Bool} {a : Act} {w : World} {i : Nat} {o : Oper} {rs : List Nat} (ho : ops[i]? = some o)
    (h : ∀ K : Act → World → Prop, Shut (∀ a w, S w → (S w → AnyB P md ops Q S brk n (l.setIfInBounds i true) a w) → K a w) → Shut (∀ a w, brk.contains i = true → AnyB P md ops Q S brk n (l.setIfInBounds i true) a w → K a w) → if Region.wanted o (yielded ops a.tmps) = true then Oper.wp P o a w K Q else K (a.put o.dst undef) w)
    (hs : EachB P md ops Q S brk n l a w rs) : EachB P md ops Q S brk n l a w (i :: rs) := fun j hj => by
  rcases List.mem_cons.1 hj with rfl | hj
  · exact wpOp_step ho fun K hK => h K (fun a w hS hW => hK a w ⟨fun _ _ => hS, hW hS⟩) (fun a w hb hW => hK a w ⟨fun h0 => (by rw [hb] at h0; cases h0), hW⟩)
  · exact hs j hj
theorem AnyB.each {rs : List Nat} {n : Nat} {l : Array Bool} {a : Act} {w : World} (hr : Region.ready md ops l = rs) (hne : rs ≠ []) (h : EachB P md ops Q S brk n l a w rs) : AnyB P md ops Q S brk (n + 1) l a w :=
  ⟨fun h0 => absurd (hr ▸ h0) hne, hr ▸ h⟩
theorem AnyB.begin {id : Nat} {a : Act} {w : World} (brk : List Nat) (hm : P.follows .mixedOrders = true) (hS : S w.drew)
    (h : S w.drew → AnyB P .any ops Q S brk ops.size (Array.replicate ops.size false) a w.drew) : (Code.region id ops true).wp P Q a w :=
  wp_region_any hm (AnyB.plain _ _ _ _ (h hS))
end
section
variable {P : Program} {ops : Array Oper} {Q : Exit → Act → World → Prop} {md : Region.Mode} {S : World → Prop} {brk : List Nat}
theorem AnyB.tq {i : Nat} {oi : Oper} {v : Value} {n : Nat} {l l' : Array Bool} {a a' : Act} {w : World} (hi : ops[i]? = some oi := by simp only [List.getElem?_toArray, List.getElem?_cons_zero, List.getElem?_cons_succ]; rfl)
    (hs : Region.noSelect ops = true := by kernel_rfl) (hf : Region.free md ops l i = true := by kernel_rfl) (hr : (Region.ready md ops l).contains i = true := by kernel_rfl)
    (hQ : ∀ c a w, Q (.panic c) (a.put oi.dst v) w → Q (.panic c) a w := by intro _ _ _ h; exact h)
    (hy : YieldsIf P ops (fun _ => True) oi v a := by refine Or.inl ⟨by rfl, ?_⟩; (intro w hSw; (try dsimp only at hSw); go_simp; (try (with_reducible rfl))))
    (hl : l.setIfInBounds i true = l' := by (try simp only [List.setIfInBounds_toArray, List.set_cons_zero, List.set_cons_succ]); rfl)
    (ha : a.put oi.dst v = a' := by (try simp only [Act.put, List.setIfInBounds_toArray, List.set_cons_zero, List.set_cons_succ]); rfl)
    (h : AnyB P md ops Q S brk n l' a' w) : AnyB P md ops Q S brk (n + 1) l a w := by
  subst hl; subst ha; exact AnyB.takeQ hi hs hf hr hQ hy h
theorem AnyB.tk {i : Nat} {oi : Oper} {v : Value} {n : Nat} {l l' : Array Bool} {a a' : Act} {w : World} (hi : ops[i]? = some oi := by simp only [List.getElem?_toArray, List.getElem?_cons_zero, List.getElem?_cons_succ]; rfl)
    (hs : Region.noSelect ops = true := by kernel_rfl) (hf : Region.free md ops l i = true := by kernel_rfl) (hr : (Region.ready md ops l).contains i = true := by kernel_rfl) (hc : closedB md ops l = true := by kernel_rfl) (hb : allWait md ops brk i = true := by kernel_rfl)
    (hQ : ∀ c a w, Q (.panic c) (a.put oi.dst v) w → Q (.panic c) a w := by intro _ _ _ h; exact h) 
    (hy : YieldsIf P ops S oi v a := by refine Or.inl ⟨by rfl, ?_⟩; (intro w hSw; (try dsimp only at hSw); go_simp; (try (with_reducible rfl)))) (hS : S w := by assumption)
    (hl : l.setIfInBounds i true = l' := by (try simp only [List.setIfInBounds_toArray, List.set_cons_zero, List.set_cons_succ]); rfl)
    (ha : a.put oi.dst v = a' := by (try simp only [Act.put, List.setIfInBounds_toArray, List.set_cons_zero, List.set_cons_succ]); rfl)
    (h : AnyB P md ops Q S brk n l' a' w) : AnyB P md ops Q S brk (n + 1) l a w := by
  subst hl; subst ha; exact AnyB.take hi hs hf hr hc hb hQ hy hS h
end
end Go.Proofs.YtnckabohlakbgaaGreat
